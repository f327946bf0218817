/- schismalaw39.parse (printed by gen_lk6.py). -/
import Derived.Test.YteenfcmnmenigaaGreatDoorGCE
import Derived.Test.YteenfcmnmenigaaGreatDoorGM
namespace Go.Proofs.YteenfcmnmenigaaGreatDoor
open Go.Proofs Go.RowKit Go.Lib

theorem frac_nat (n d : Nat) (w : World) (hS : Std w) (hn : n ≤ 999999999) (hd : d ≤ 999999999) (hn0 : 0 < n) (hd0 : 0 < d) :
    Calls Tryz.prog 58 #[.int .i64 n, .int .i64 d] w fun e w' => e = .returned (.agg #[.string ⟨(decDigits (n / Nat.gcd n d)).toArray⟩, .string ⟨(decDigits (d / Nat.gcd n d)).toArray⟩]) ∧ Below w.heap.size w w' := by
  have hlen : ∀ z : Nat, z ≤ 999999999 → (itoa (z : Int)).length ≤ 50000 := fun z hz => by
    rw [itoa_nat]
    have := dec9d hz
    omega
  have h := frac03_pos n d w hS hn0 (by omega) hd0 (by omega) (hlen n hn) (hlen d hd)
  rw [itoa_nat, itoa_nat] at h
  exact h

set_option maxRecDepth 100000 in
set_option maxHeartbeats 4000000 in
theorem parse_any39 (pv : Value) (p : List Int) (s : List UInt8) (m : Int) (w : World) (hS : Std w) (hp : IsRow w w.heap.size pv p) (hm : w.cell? ⟨2, 0, Option.none⟩ = some (.int .i64 m)) (hs : s.length ≤ 120) :
    Calls Tryz.prog 23 #[pv, .string ⟨s.toArray⟩] w fun e w' => RowsPost (parErr p s) (parRows p s) w.heap.size e w' ∧ Below w.heap.size w w' := by
  obtain ⟨i0, hi0, hz0, hz1, hz2⟩ := info_parts Tryz.info_int
  have HIW := Lib.hid (info_parts Tryz.info_row)
  have HPC := Lib.hid (primeCheck_any pv p _ w hp)
  have HU : Hid (parErr p s = if primeErr p ≠ 0 then primeErr p else match readL s with | none => 15 | some l => parL p l) := Lib.hid rfl
  have HV : Hid (parRows p s = match readL s with | none => [] | some l => facL p l l.length) := Lib.hid rfl
  generalize parErr p s = V at *
  generalize parRows p s = RR at *
  have HSP := Lib.hid (splitAt_any 58 s m w (by omega) hm)
  have hln := cutAll_len 58 s
  have hpc := cutAll_piece 58 s
  have HRL : Hid (readL s = if 12 < (cutAll 58 s).length then none else rdAll (cutAll 58 s)) := Lib.hid (by unfold readL; rw [if_neg (by omega)])
  have HRS := Lib.hid (fun l => @readL_some s l)
  generalize readL s = R at *
  have hplen : Box (∀ x ∈ cutAll 58 s, x.length ≤ 100000) := ⟨fun x hx => Nat.le_trans (hpc x hx) (by omega)⟩
  generalize cutAll 58 s = ps at *
  have hpsl : ps.length ≤ 121 := by omega
  have HS0 := Lib.hid hS
  have HP := Lib.hid hp
  obtain ⟨AP, cp, rfl⟩ := hp.shape
  clear hS hp hm hln hpc
  by_cases hpe : primeErr p = 0
  case neg =>
    rw [if_pos hpe] at HU
    obtain rfl := HU.out
    have hne : (primeErr p != 0) = true := by simpa using hpe
    have HNE := Lib.hid hpe
    clear hpe HSP HU HV HRL HRS
    generalize primeErr p = z at *
    go_enter Tryz.func23, Tryz.ntmps23
    go_wp2_with fail
    refine HPC.out.mono ?_
    rintro e w1 ⟨rfl, hw⟩
    subst hw
    go_wp2_with fail
    go_ret2
    exact ⟨.inr ⟨HNE.out, rfl⟩, Below.refl _ _⟩
  rw [if_neg (by rw [hpe]; decide)] at HU
  rw [hpe] at HPC
  have HP0 := Lib.hid hpe
  clear hpe
  have HV15 : Hid (R = none → V = 15) := Lib.hid fun h => by rw [HU.out, h]
  by_cases h12 : 12 < ps.length
  case pos =>
    rw [if_pos h12] at HRL
    have HN := Lib.hid HRL.out
    have d12 : decide (12 < (ps.length : Int)) = true := decide_eq_true (by omega)
    clear h12
    go_enter Tryz.func23, Tryz.ntmps23
    go_wp2_with fail
    refine HPC.out.mono ?_
    rintro e w1 ⟨rfl, hw⟩
    subst hw
    go_wp2_with fail
    refine HSP.out.mono ?_
    rintro e w1 ⟨B, rfl, _, hb1⟩
    go_wp2_with fail
    go_ret2
    exact ⟨.inr ⟨by rw [HV15.out HN.out]; decide, by rw [HV15.out HN.out]; rfl⟩, hb1⟩
  rw [if_neg h12] at HRL
  have d12 : decide (12 < (ps.length : Int)) = false := decide_eq_false (by omega)
  clear h12
  go_enter Tryz.func23, Tryz.ntmps23
  go_wp2_with fail
  refine HPC.out.mono ?_
  rintro e w1 ⟨rfl, hw⟩
  subst hw
  go_wp2_with fail
  refine HSP.out.mono ?_
  rintro e w1 ⟨B, rfl, htx, hb1⟩
  have HTX := Lib.hid htx
  have HB1 := Lib.hid hb1
  have HS := Lib.hid (HS0.out.below hb1 (Nat.le_refl _))
  clear htx hb1 HSP
  go_wp2_with fail
  go_loopw [8, 32] (fun o i wr => ∃ (k : Nat), k ≤ ps.length ∧ i = .int .i64 k ∧ Box (∀ j, j < k → ∃ n, rdNum (ps[j]?.getD []) = some n) ∧ wr.ownsRow w1.heap.size 3 1 o k (is (rdTo ps k)) ∧ Below w1.heap.size w1 wr) (fun _ i _ => ps.length - (intOf i).toNat)
  case atStart => exact ⟨0, Nat.zero_le _, rfl, ⟨fun j hj => by omega⟩, World.ownsRow_nil _ _ _ _, Below.refl _ _⟩
  case round =>
    obtain ⟨k, hk, rfl, HD, hown, hbw⟩ := hrel
    by_cases hlt : k < ps.length
    · have hca := (HTX.out.below hbw).2 k hlt
      have hgk : ps[k]?.getD [] = ps[k] := by rw [List.getElem?_eq_getElem hlt]; rfl
      rw [hgk] at hca
      have HMK := Lib.hid (List.getElem_mem hlt)
      have HNX := Lib.hid (rdTo_next hlt)
      have HGK := Lib.hid hgk
      have HPL := Lib.hid (hplen.out _ HMK.out)
      have HAT := Lib.hid (atoi_all ps[k] wr (HS.out.below hbw (Nat.le_refl _)) HPL.out)
      have HO := Lib.hid hown
      have HB := Lib.hid hbw
      clear hown hbw hgk
      generalize ps[k]'hlt = x at *
      have HBAD : Hid (rdNum x = none → R = none) := Lib.hid fun h => by
        rw [HRL.out]
        exact rdAll_none HMK.out h
      go_wp2_with fail
      refine HAT.out.mono ?_
      rintro e w2 ⟨hat, hb2⟩
      have HO2 := Lib.hid (own_below HO.out hb2)
      have HB2 := Lib.hid (HB.out.trans (hb2.mono HB.out.size))
      clear hb2 HAT HO HB hca
      rcases hat with ⟨n, hn, rfl⟩ | ⟨hn, v, t, q, rfl⟩
      · obtain ⟨r1, r2⟩ := atoiAll_rng hn
        have HIT := Lib.hid (itoa_any n w2 r1 r2 (HS.out.below HB2.out (Nat.le_refl _)))
        have HOK := fun h1 h2 h3 => Lib.hid (rdNum_ok hn h1 h2 h3)
        have HNO := fun h => Lib.hid (HBAD.out (rdNum_no (x := x) fun n' e => by rw [hn] at e; cases e; exact h))
        clear hn r1 r2
        by_cases h9 : x.length ≤ 9
        · by_cases hI : itoa n = x
          · by_cases h0 : 0 ≤ n
            · have HV := Lib.hid (HOK h9 hI h0).out
              have HDN : Box (∀ j, j < k + 1 → ∃ n, rdNum (ps[j]?.getD []) = some n) := ⟨fun j hj => by
                by_cases e : j = k
                · subst e; exact ⟨_, by rw [HGK.out]; exact HV.out⟩
                · exact HD.out j (by omega)⟩
              have HNX2 : Hid (rdTo ps (k + 1) = rdTo ps k ++ [n]) := Lib.hid (by
                rw [HNX.out]
                unfold rdVal
                rw [HV.out]
                congr 2
                exact Int.toNat_of_nonneg h0)
              rw [hI] at HIT
              clear HOK HNO HD HBAD HNX HV hI
              have hwk : w1.heap.size ≤ w2.heap.size := HB2.out.size
              go_wp2_with fail
              refine HIT.out.mono ?_
              rintro e w3 ⟨rfl, hb3⟩
              have HO3 := Lib.hid (own_below HO2.out hb3)
              have HB3 := Lib.hid (HB2.out.trans (hb3.mono HB2.out.size))
              have hwk3 : w1.heap.size ≤ w3.heap.size := HB3.out.size
              clear hb3
              go_wp2_with (at_builtin; refine wpList_append_own _ rfl _ _ _ rfl w1.heap.size 3 i0 (.int .i64 0) 1 8 Tryz.underlying22 hi0 hz0 hz1 hz2 rfl (by decide) _ _ _ rfl (HO3.out.alloc _) ⟨w3.heap.size, 0, Option.none⟩ 1 1 [_] rfl rfl (cell_one_new _ _ _) (by intro u hu; simp at hu; subst hu; rfl) (by unfold maxLen; omega) (by omega) (by simp; omega) ?_; intro v9 w9 hown9 hg9 _)
              go_roundw
              case rel =>
                refine ⟨k + 1, by omega, by go_num, HDN, ?_, (HB3.out.alloc hwk3 _).grown hg9 (by simp; omega) (fun k hk => (HO3.out.lt k hk).1)⟩
                rw [HNX2.out, is_append]; exact hown9
              case measure => simp [intOf]; omega
            · have HN := HNO (fun h => h0 h.2.2)
              rw [hI] at HIT
              clear HOK HNO hI
              go_wp2_with fail
              refine HIT.out.mono ?_
              rintro e w3 ⟨rfl, hb3⟩
              have HB3 := Lib.hid (HB2.out.trans (hb3.mono HB2.out.size))
              clear hb3
              go_wp2_with fail
              go_ret2
              exact ⟨.inr ⟨by rw [HV15.out HN.out]; decide, by rw [HV15.out HN.out]; rfl⟩, HB1.out.trans (HB3.out.mono HB1.out.size)⟩
          · have HN := HNO (fun h => hI h.2.1)
            clear HOK HNO
            generalize itoa n = y at *
            go_wp2_with fail
            refine HIT.out.mono ?_
            rintro e w3 ⟨rfl, hb3⟩
            have HB3 := Lib.hid (HB2.out.trans (hb3.mono HB2.out.size))
            clear hb3
            go_wp2_with fail
            go_ret2
            exact ⟨.inr ⟨by rw [HV15.out HN.out]; decide, by rw [HV15.out HN.out]; rfl⟩, HB1.out.trans (HB3.out.mono HB1.out.size)⟩
        · have HN := HNO (fun h => h9 h.1)
          clear HOK HNO
          go_wp2_with fail
          go_ret2
          exact ⟨.inr ⟨by rw [HV15.out HN.out]; decide, by rw [HV15.out HN.out]; rfl⟩, HB1.out.trans (HB2.out.mono HB1.out.size)⟩
      · have HN := Lib.hid (HBAD.out (rdNum_no (x := x) fun n' e => absurd e (hn n')))
        clear hn
        go_wp2_with fail
        go_ret2
        exact ⟨.inr ⟨by rw [HV15.out HN.out]; decide, by rw [HV15.out HN.out]; rfl⟩, HB1.out.trans (HB2.out.mono HB1.out.size)⟩
    · obtain rfl : k = ps.length := by omega
      have HVV : Hid (rdAll ps = some (ps.map rdVal)) := Lib.hid (rdAll_some fun x hx => by
        obtain ⟨j, hj, rfl⟩ := List.getElem_of_mem hx
        have := HD.out j hj
        rw [List.getElem?_eq_getElem hj] at this
        exact this)
      have HRV : Hid (R = some (ps.map rdVal)) := Lib.hid (by rw [HRL.out, HVV.out])
      obtain ⟨hl0, hl12, hlb⟩ := HRS.out _ HRV.out
      rw [HRV.out] at HU HV
      have HOR : Hid (ORow wr u8 ((ps.map rdVal).map Int.ofNat)) := Lib.hid (by
        have h1 : rdTo ps ps.length = (ps.map rdVal).map Int.ofNat := by unfold rdTo; rw [List.take_length, List.map_map]; rfl
        unfold ORow
        rw [← h1, rdTo_len (Nat.le_refl _)]
        exact own_base hown (Nat.zero_le _))
      have HBB := Lib.hid (HB1.out.trans (hbw.mono HB1.out.size))
      have HSZ : Hid ((ps.map rdVal).length = ps.length) := Lib.hid (List.length_map _)
      clear HRL HRS HV15 HTX HD hown hbw HVV HRV d12 hpsl hplen HS
      obtain ⟨A1, c1, e1⟩ := HOR.out.shape
      generalize ps.map rdVal = l at *
      rw [List.length_map] at e1
      subst e1
      have HIS := Lib.hid HOR.out.row
      clear HOR HB1 hi0 hz0 hz1 hz2
      rename World => w2
      clear i0
      obtain ⟨i0, hi0, hz0, hz1, hz2⟩ := HIW.out
      have HB1 := Lib.hid HBB.out
      have HS := Lib.hid HS0.out
      have HU2 : Hid (V = parL p l) := Lib.hid HU.out
      have HV2 : Hid (RR = facL p l l.length) := Lib.hid HV.out
      obtain ⟨d0, hd0⟩ : ∃ d0, d0 = l[0]?.getD 0 := ⟨_, rfl⟩
      have HD0 := Lib.hid hd0
      have HPL : Hid (parL p l = if ordE l l.length ≠ 0 then ordE l l.length else if l.all (facB p d0) then 0 else 25) := Lib.hid (by rw [hd0]; rfl)
      clear hd0
      generalize parL p l = V2 at *
      clear HU HV
      have HLB : Box (∀ k, l[k]?.getD 0 ≤ 999999999) := ⟨fun k => by
        by_cases hk : k < l.length
        · rw [List.getElem?_eq_getElem hk]; exact hlb _ (List.getElem_mem hk)
        · rw [List.getElem?_eq_none (by omega)]; exact Nat.zero_le _⟩
      go_wp2_with fail
      go_loopw [65] (fun i wr => ∃ (k : Nat), k ≤ l.length ∧ i = .int .i64 k ∧ Box (ordE l k = 0) ∧ Below w2.heap.size w2 wr) (fun i _ => l.length - (intOf i).toNat)
      case atStart => exact ⟨0, Nat.zero_le _, rfl, ⟨rfl⟩, Below.refl _ _⟩
      case round =>
        obtain ⟨k, hk, rfl, HF, hbw⟩ := hrel
        by_cases hlt : k < l.length
        · obtain ⟨_, _, e9, _, _, hr9⟩ := HIS.out
          injection e9 with e91 e92 e93
          subst e91 e93
          clear e92
          obtain ⟨b, o, rfl, had, hc⟩ := ints_pl hr9 (k := k) (by rw [List.length_map]; exact hlt)
          rw [ints_get] at hc
          have hck := (hbw.cell (p := ⟨b, o + k, Option.none⟩) had).trans hc
          have HLK := HLB.out k
          by_cases hz : l[k]?.getD 0 = 0
          · have HN : Hid (V = 17) := Lib.hid (by
              have h1 := ordE_zero HF.out hz
              rw [HU2.out, HPL.out, if_pos (by rw [ordE_stop (k := k + 1) (by rw [h1]; decide) _ (by omega), h1]; decide), ordE_stop (k := k + 1) (by rw [h1]; decide) _ (by omega), h1])
            rw [hz] at hck
            clear hr9 hc HLK hz
            go_wp2_with fail
            go_ret2
            exact ⟨.inr ⟨by rw [HN.out]; decide, by rw [HN.out]; rfl⟩, HB1.out.trans (hbw.mono HB1.out.size)⟩
          · cases k with
            | zero =>
              have HN : Box (ordE l 1 = 0) := ⟨ordE_next HF.out hz (fun h => h.1 rfl)⟩
              rw [Nat.add_zero] at hck
              clear hr9 hc
              generalize l[0]?.getD 0 = x at *
              go_wp2_with fail
              go_roundw
              case rel => exact ⟨1, by omega, by go_num, HN, hbw⟩
              case measure => simp [intOf]; omega
            | succ k =>
              obtain ⟨b', o', e8, had0, hc0⟩ := ints_pl hr9 (k := k) (by rw [List.length_map]; omega)
              cases e8
              rw [ints_get] at hc0
              have hck0 := (hbw.cell (p := ⟨b, o + k, Option.none⟩) had0).trans hc0
              have hw1 : IntKind.i64.wrap (((k + 1 : Nat) : Int) - 1) = (k : Int) := by rw [show ((k + 1 : Nat) : Int) - 1 = (k : Int) by omega]; exact IntWalk.i64_in _ (by omega)
              have hw0 : IntKind.i64.wrap (k : Int) = (k : Int) := IntWalk.i64_in _ (by omega)
              have HLK0 := HLB.out k
              by_cases hle : l[k + 1]?.getD 0 ≤ l[k]?.getD 0
              · have HN : Hid (V = 6) := Lib.hid (by
                  have h1 := ordE_less HF.out hz ⟨by omega, hle⟩
                  rw [HU2.out, HPL.out, if_pos (by rw [ordE_stop (k := k + 1 + 1) (by rw [h1]; decide) _ (by omega), h1]; decide), ordE_stop (k := k + 1 + 1) (by rw [h1]; decide) _ (by omega), h1])
                clear hr9 hc hc0
                generalize l[k + 1]?.getD 0 = x at *
                generalize l[k]?.getD 0 = y at *
                go_wp2_with fail
                go_ret2
                exact ⟨.inr ⟨by rw [HN.out]; decide, by rw [HN.out]; rfl⟩, HB1.out.trans (hbw.mono HB1.out.size)⟩
              · have HN : Box (ordE l (k + 2) = 0) := ⟨ordE_next HF.out hz (fun h => hle h.2)⟩
                clear hr9 hc hc0
                generalize l[k + 1]?.getD 0 = x at *
                generalize l[k]?.getD 0 = y at *
                go_wp2_with fail
                go_roundw
                case rel => exact ⟨k + 2, by omega, by go_num, HN, hbw⟩
                case measure => simp [intOf]; omega
        · obtain rfl : k = l.length := by omega
          have HOE := Lib.hid HF.out
          have HPOS := Lib.hid (ordE_pos _ HF.out)
          rw [HOE.out, if_neg (by decide)] at HPL
          clear HF HOE
          have HBW := Lib.hid hbw
          clear hbw
          rename World => W1
          go_wp2_with fail
          go_loopw [15, 86] (fun o i w2 => ∃ (k : Nat), k ≤ l.length ∧ i = .int .i64 k ∧ Box (∀ j, j < k → facB p d0 (l[j]?.getD 0) = true) ∧ LRow w2 W1.heap.size o (facL p l k) ∧ Below W1.heap.size W1 w2) (fun _ i _ => l.length - (intOf i).toNat)
          case atStart => exact ⟨0, Nat.zero_le _, rfl, ⟨fun j h => by omega⟩, LRow.nil _ _, Below.refl _ _⟩
          case round =>
            obtain ⟨k, hk, rfl, HD, hlr, hbx⟩ := hrel
            by_cases hlt : k < l.length
            · obtain ⟨_, _, e9, _, _, hr9⟩ := HIS.out
              injection e9 with e91 e92 e93
              subst e91 e93
              clear e92
              obtain ⟨b, o, rfl, had, hc⟩ := ints_pl hr9 (k := k) (by rw [List.length_map]; exact hlt)
              obtain ⟨b', o', e8, had0, hc0⟩ := ints_pl hr9 (k := 0) (by rw [List.length_map]; exact hl0)
              cases e8
              rw [ints_get] at hc hc0
              rw [Nat.add_zero] at hc0
              have hbq := HBW.out.trans (hbx.mono HBW.out.size)
              rw [← HD0.out] at hc0
              have hck := (hbq.cell (p := ⟨b, o + k, Option.none⟩) had).trans hc
              have hck0 := (hbq.cell (p := ⟨b, o, Option.none⟩) had0).trans hc0
              have HBX := Lib.hid (HB1.out.trans (hbq.mono HB1.out.size))
              have hnk := HPOS.out k hlt
              have hn0 := HPOS.out 0 hl0
              rw [← HD0.out] at hn0
              have hgk : l[k]?.getD 0 = l[k] := by rw [List.getElem?_eq_getElem hlt]; rfl
              have HNX : Hid (facL p l (k + 1) = facL p l k ++ [facR p d0 (l[k]?.getD 0)]) := Lib.hid (by rw [facL_next hlt, hgk, HD0.out])
              have HLN := Lib.hid (facL_len (p := p) hk)
              have HAL : Hid (facB p d0 (l[k]?.getD 0) = false → V = 25) := Lib.hid (fun h => by
                rw [HU2.out, HPL.out, if_neg]
                intro hc
                have := List.all_eq_true.1 hc l[k] (List.getElem_mem hlt)
                rw [← hgk, h] at this
                exact absurd this (by decide))
              have hbd0 := HLB.out 0
              rw [← HD0.out] at hbd0
              have hbdk := HLB.out k
              clear hgk hc hc0 hr9 hbq
              have HFR := Lib.hid (fun W hW => frac_nat (l[k]?.getD 0) d0 W hW hbdk hbd0 (by omega) (by omega))
              obtain ⟨lo1, lo2, lo3, lo4, lo5⟩ := low_ok (n := l[k]?.getD 0) (d := d0) (by omega) (by omega)
              have HFA := Lib.hid (fun W hW hq => primeFactorQ (.slice AP p.length cp) p (l[k]?.getD 0 / Nat.gcd (l[k]?.getD 0) d0) (d0 / Nat.gcd (l[k]?.getD 0) d0) W hW hq HP0.out (by omega) (by omega) lo1 lo2 lo3)
              have HFB : Hid (smB p (l[k]?.getD 0 / Nat.gcd (l[k]?.getD 0) d0) (d0 / Nat.gcd (l[k]?.getD 0) d0) = facB p d0 (l[k]?.getD 0)) := Lib.hid rfl
              have HFX : Hid (expsTo p (l[k]?.getD 0 / Nat.gcd (l[k]?.getD 0) d0) (d0 / Nat.gcd (l[k]?.getD 0) d0) p.length = facR p d0 (l[k]?.getD 0)) := Lib.hid rfl
              have HDN : Hid (facB p d0 (l[k]?.getD 0) = true → ∀ j, j < k + 1 → facB p d0 (l[j]?.getD 0) = true) := Lib.hid (fun h j hj => by
                by_cases e : j = k
                · subst e; exact h
                · exact HD.out j (by omega))
              clear lo1 lo2 lo3 lo4 lo5 hbd0 hbdk hnk hn0 HD
              generalize l[k]?.getD 0 = x at *
              have HLR := Lib.hid hlr
              have HB := Lib.hid hbx
              clear hlr hbx
              go_wp2_with fail
              refine (HFR.out _ (HS.out.below HBX.out (Nat.le_refl _))).mono ?_
              rintro e w3 ⟨rfl, hb3⟩
              have HB3 := Lib.hid (HB.out.trans (hb3.mono HB.out.size))
              have HBX3 := Lib.hid (HBX.out.trans (hb3.mono HBX.out.size))
              have HLR3 := Lib.hid (HLR.out.below hb3)
              clear hb3 HLR HFR
              go_wp2_with fail
              refine (HFA.out _ (HS.out.below HBX3.out (Nat.le_refl _)) (HP.out.lift HBX3.out)).mono ?_
              rintro e w4 ⟨hpo, hb4⟩
              have HB4 := Lib.hid (HB3.out.trans (hb4.mono HB3.out.size))
              have HBX4 := Lib.hid (HBX3.out.trans (hb4.mono HBX3.out.size))
              have HLR4 := Lib.hid (HLR3.out.below hb4)
              clear hb4 HLR3 HFA HB3 HBX3 HB HBX
              rcases hpo with ⟨hsm, u, rfl, hor⟩ | ⟨hsm, rfl⟩
              · have HDX := Lib.hid (HDN.out (HFB.out ▸ hsm))
                rw [HFX.out] at hor
                have HOR := Lib.hid hor
                obtain ⟨AD, cd, rfl⟩ := hor.shape
                obtain ⟨vs, hown, hvs⟩ := HLR4.out
                rw [HLN.out] at hown
                have HO := Lib.hid hown
                have HVS := Lib.hid hvs
                have hwk : W1.heap.size ≤ w4.heap.size := HB4.out.size
                clear hor hown hvs hsm
                go_wp2_with (at_builtin; refine wpList_append_own _ rfl _ _ _ rfl W1.heap.size 31 i0 (.slice Option.none 0 0) 1 24 Tryz.underlying24 hi0 hz0 hz1 hz2 rfl (by decide) _ _ _ rfl (HO.out.alloc _) ⟨w4.heap.size, 0, Option.none⟩ 1 1 [_] rfl rfl (cell_one_new _ _ _) (by intro u hu; simp at hu; subst hu; rfl) (by unfold maxLen; omega) (by omega) (by simp; omega) ?_; intro v9 w9 hown9 hg9 _)
                go_roundw
                case rel =>
                  refine ⟨k + 1, by omega, by go_num, ⟨HDX.out⟩, ?_, (HB4.out.alloc hwk _).grown hg9 (by simp; omega) (fun k hk => (HO.out.lt k hk).1)⟩
                  rw [HNX.out]
                  have hO := HO.out
                  rw [← HLN.out] at hO hown9
                  exact LRow.snoc (hO.alloc _) (fun j y hj => by obtain ⟨u, h1, h2⟩ := HVS.out j y hj; exact ⟨u, h1, h2.alloc _⟩) (HOR.out.alloc _) hown9 hg9
                case measure => simp [intOf]; omega
              · have HN := Lib.hid (HAL.out (HFB.out ▸ hsm))
                clear hsm
                go_wp2_with fail
                go_ret2
                exact ⟨.inr ⟨by rw [HN.out]; decide, by rw [HN.out]; rfl⟩, HBX4.out⟩
            · obtain rfl : k = l.length := by omega
              have HN : Hid (V = 0) := Lib.hid (by
                rw [HU2.out, HPL.out, if_pos]
                refine List.all_eq_true.2 fun x hx => ?_
                obtain ⟨j, hj, rfl⟩ := List.getElem_of_mem hx
                have h8 := HD.out j hj
                have h9 : l[j]?.getD 0 = l[j] := by rw [List.getElem?_eq_getElem hj]; rfl
                rw [h9] at h8
                exact h8)
              have HLR := Lib.hid hlr
              obtain ⟨A9, c9, rfl⟩ := hlr.shape
              clear hlr HD
              go_wp2_with fail
              go_ret2
              exact ⟨.inl ⟨HN.out, _, rfl, by rw [HV2.out]; exact HLR.out.base (Nat.le_trans HB1.out.size HBW.out.size)⟩, HB1.out.trans ((HBW.out.trans (hbx.mono HBW.out.size)).mono HB1.out.size)⟩

end Go.Proofs.YteenfcmnmenigaaGreatDoor
