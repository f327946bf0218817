/- The numbers of a chord: how great they are. chord.numbers of small chords. chord.Otonal, Utonal, Text of small chords. slices.Equal of lists of numbers. -/
import Derived.Test.YteenfcmnmenigaaGreatDoorGCD
import Derived.Test.YteenfcmnmenigaaGreatDoorGQ
namespace Go.Proofs.YteenfcmnmenigaaGreatDoor
open Go.RowKit Go.Lib

/-- Small enough for numbers. -/
structure NumOk (p : List Int) (inv : Bool) (c : List (List Int)) : Prop where
  len : ∀ x ∈ c, x.length = p.length
  le4 : p.length ≤ 4
  prm : ∀ k, k < p.length → 0 ≤ p[k]?.getD 0 ∧ p[k]?.getD 0 ≤ 1000
  dif : ∀ x ∈ c, ∀ k, k < p.length → (x[k]?.getD 0 - extX inv c x k).natAbs ≤ 24
  rng : ∀ x ∈ c, ∀ k, k < p.length → (x[k]?.getD 0).natAbs ≤ 100000

theorem numPT_le {p : List Int} {inv : Bool} {c : List (List Int)} (h : NumOk p inv c) {x : List Int} (hx : x ∈ c) : ∀ k, k ≤ p.length → numPT p inv c x k ≤ 1000 ^ (24 * k)
  | 0, _ => Nat.le_refl _
  | k + 1, hk => by
    have ih := numPT_le h hx k (by omega)
    have hp := h.prm k hk
    have hd := h.dif x hx k hk
    rw [numPT, show 24 * (k + 1) = 24 * k + 24 by omega, Nat.pow_add]
    refine Nat.mul_le_mul ih (Nat.le_trans (Nat.pow_le_pow_left (show (p[k]?.getD 0).toNat ≤ 1000 by omega) _) (Nat.pow_le_pow_right (by omega) hd))
theorem pow_three (n : Nat) : 1000 ^ n = 10 ^ (3 * n) := by rw [Nat.pow_mul]
theorem num_part {p : List Int} {inv : Bool} {c : List (List Int)} (h : NumOk p inv c) {x : List Int} (hx : x ∈ c) {k j : Nat} (hk : k < p.length) (hj : j ≤ 24) : (decDigits (numPT p inv c x k * (p[k]?.getD 0).toNat ^ j)).length ≤ 400 := by
  have h1 := numPT_le h hx k (by omega)
  have hp := h.prm k hk
  have h4 := h.le4
  obtain ⟨e, he⟩ : ∃ e, e = 96 := ⟨_, rfl⟩
  have h2 : numPT p inv c x k * (p[k]?.getD 0).toNat ^ j ≤ 1000 ^ e := by
    refine Nat.le_trans (Nat.mul_le_mul h1 (Nat.pow_le_pow_left (show (p[k]?.getD 0).toNat ≤ 1000 by omega) _)) ?_
    rw [← Nat.pow_add]
    exact Nat.pow_le_pow_right (by omega) (by omega)
  rw [dec_length]
  refine Nat.le_trans (nDigits_le (k := 3 * e + 1) (by omega) (Nat.lt_of_le_of_lt h2 ?_)) (by omega)
  rw [pow_three]
  exact Nat.pow_lt_pow_right (by omega) (by omega)
theorem num_step {n P : Nat} {j : Nat} {q : Int} (hq : q = (P : Int)) : itoa (((n * P ^ j : Nat) : Int) * q) = decDigits (n * P ^ (j + 1)) := by
  rw [hq, ← Int.natCast_mul, itoa_nat, Nat.pow_succ, Nat.mul_assoc]
theorem extTo_rng {p : List Int} {inv : Bool} {c : List (List Int)} (h : NumOk p inv c) {k : Nat} (hk : k < p.length) {s : Int} (hs : s.natAbs ≤ 100000) : ∀ j, j ≤ c.length → (extTo inv c k s j).natAbs ≤ 100000
  | 0, _ => hs
  | j + 1, hj => by
    have ih := extTo_rng h hk hs j (by omega)
    have hr : ((c[j]?.getD [])[k]?.getD 0).natAbs ≤ 100000 := by
      rw [List.getElem?_eq_getElem (show j < c.length by omega)]
      exact h.rng _ (List.getElem_mem _) k hk
    rw [extTo]
    generalize (c[j]?.getD [])[k]?.getD 0 = z at *
    split <;> omega

/-- A list of numbers, in a block that somebody made. -/
def TxtsAt (w : World) (base : Nat) (v : Value) (l : List Nat) : Prop := w.ownsRow base 55 1 v l.length (strs (l.map decDigits))
theorem TxtsAt.below {w w' : World} {base : Nat} {v : Value} {l : List Nat} (h : TxtsAt w base v l) (hb : Below w.heap.size w w') : TxtsAt w' base v l := own_below h hb
theorem TxtsAt.nil (w : World) (base : Nat) : TxtsAt w base (.slice Option.none 0 0) [] := World.ownsRow_nil _ _ _ _
theorem TxtsAt.shape {w : World} {base : Nat} {v : Value} {l : List Nat} (h : TxtsAt w base v l) : ∃ A c, v = .slice A l.length c := by
  rcases h.2 with ⟨rfl, h0⟩ | ⟨g, cap, cur, rfl, _⟩
  · exact ⟨Option.none, 0, by rw [h0]⟩
  · exact ⟨_, _, rfl⟩
theorem strs_snoc2 (ws : List (List UInt8)) (t : List UInt8) : strs (ws ++ [t]) = strs ws ++ [.string ⟨t.toArray⟩] := by unfold strs; rw [List.map_append]; rfl
theorem txts_snoc (l : List Nat) (n : Nat) : strs ((l ++ [n]).map decDigits) = strs (l.map decDigits) ++ [.string ⟨(decDigits n).toArray⟩] := by rw [List.map_append, List.map_cons, List.map_nil, strs_snoc2]

def numsTo (p : List Int) (inv : Bool) (c : List (List Int)) (k : Nat) : List Nat := (c.take k).map fun x => numPT p inv c x p.length
theorem numsTo_len {p : List Int} {inv : Bool} {c : List (List Int)} {k : Nat} (h : k ≤ c.length) : (numsTo p inv c k).length = k := by unfold numsTo; rw [List.length_map, List.length_take]; omega
theorem numsTo_next {p : List Int} {inv : Bool} {c : List (List Int)} {k : Nat} (h : k < c.length) : numsTo p inv c (k + 1) = numsTo p inv c k ++ [numPT p inv c c[k] p.length] := by
  unfold numsTo
  rw [← List.take_append_getElem h, List.map_append]
  rfl
theorem numsTo_all (p : List Int) (inv : Bool) (c : List (List Int)) : numsTo p inv c c.length = numbersL p inv c := by unfold numsTo numbersL; rw [List.take_length]

end Go.Proofs.YteenfcmnmenigaaGreatDoor

namespace Go.Proofs.YteenfcmnmenigaaGreatDoor
open Go.RowKit Go.Lib

set_option maxRecDepth 100000 in
set_option maxHeartbeats 8000000 in
theorem numbers_ok (pv : Value) (p : List Int) (inv : Bool) (A : Option Addr) (c : Nat) (l : List (List Int)) (w : World) (hS : Std w) (hp : IsRow w w.heap.size pv p) (hl : RowsAt w w.heap.size A l) (hk : NumOk p inv l) (hn : l.length ≤ 1000) :
    Calls Tryz.prog 65 #[pv, .slice A l.length c, .bool inv] w fun e w' => (∃ v, e = .returned (.tuple #[v, .int .i64 0]) ∧ TxtsAt w' w.heap.size v (numbersL p inv l)) ∧ Below w.heap.size w w' := by
  obtain ⟨i0, hi0, hz0, hz1, hz2⟩ := info_parts Tryz.info_Int
  have HS := Lib.hid hS
  have HP := Lib.hid hp
  have HL : Box (RowsAt w w.heap.size A l) := ⟨hl⟩
  have HK : Box (NumOk p inv l) := ⟨hk⟩
  have h4 := hk.le4
  obtain ⟨AP, cp, rfl⟩ := hp.shape
  clear hS hp hl hk
  go_enter Tryz.func65, Tryz.ntmps65
  go_wp2_with fail
  go_loopw [8, 19] (fun out i wr => ∃ (k : Nat), k ≤ l.length ∧ i = .int .i64 k ∧ TxtsAt wr w.heap.size out (numsTo p inv l k) ∧ Below w.heap.size w wr) (fun _ i _ => l.length - (intOf i).toNat)
  case atStart => exact ⟨0, Nat.zero_le _, rfl, TxtsAt.nil _ _, Below.refl _ _⟩
  case round =>
    obtain ⟨k, hk, rfl, htx, hbw⟩ := hrel
    by_cases hlt : k < l.length
    · obtain ⟨b, o, xv, rfl, hab, hca, hrow⟩ := rows_pl HL.out (List.getElem?_eq_getElem hlt)
      have hca' := (hbw.cell (p := ⟨b, o + k, Option.none⟩) hab).trans hca
      have HNX := Lib.hid (numsTo_next (p := p) (inv := inv) hlt)
      have HMX := Lib.hid (List.getElem_mem hlt)
      have HLE := Lib.hid (numsTo_len (p := p) (inv := inv) hk)
      have HXL := Lib.hid (HK.out.len _ (List.getElem_mem hlt))
      generalize l[k]'hlt = x at *
      have HRX := Lib.hid hrow
      obtain ⟨AX, cx, rfl, _, _, hxr⟩ := hrow
      have HXR := Lib.hid hxr
      have HTX := Lib.hid htx
      have HBW := Lib.hid hbw
      clear htx hbw hca hxr
      rename World => W1
      go_wp2_with fail
      go_loopw [11, 25] (fun n i w2 => ∃ (m : Nat), m ≤ p.length ∧ i = .int .i64 m ∧ n = .string ⟨(decDigits (numPT p inv l x m)).toArray⟩ ∧ Below W1.heap.size W1 w2) (fun _ i _ => p.length - (intOf i).toNat)
      case atStart => exact ⟨0, Nat.zero_le _, rfl, by rw [numPT, dec_one], Below.refl _ _⟩
      case round =>
        obtain ⟨m, hm, rfl, rfl, hbv⟩ := hrel
        by_cases hlt2 : m < p.length
        · have hbwv := HBW.out.trans (hbv.mono HBW.out.size)
          obtain ⟨_, _, e9, _, _, hpr⟩ := HP.out
          injection e9 with e91 _ e93
          subst e91 e93
          obtain ⟨adp, rfl, hpb, hpc⟩ := hpr.i_at hlt2
          obtain ⟨adx, rfl, hxb, hxc⟩ := HXR.out.i_at (k := m) (by rw [HXL.out]; exact hlt2)
          have hpc' := (hbwv.cell (p := adp.add m) (by rw [add_block]; exact hpb)).trans hpc
          have hxc' := (hbwv.cell (p := adx.add m) (by rw [add_block]; exact hxb)).trans hxc
          have hmx : (m : Int) < (x.length : Int) := by have := HXL.out; omega
          have HPR := Lib.hid (HK.out.prm m hlt2)
          have HDF := Lib.hid (HK.out.dif x HMX.out m hlt2)
          have HRG := Lib.hid (HK.out.rng x HMX.out m hlt2)
          have HPT := Lib.hid (fun j hj => num_part HK.out HMX.out hlt2 (j := j) hj)
          have HNM : Hid (numPT p inv l x (m + 1) = numPT p inv l x m * (p[m]?.getD 0).toNat ^ (x[m]?.getD 0 - extX inv l x m).natAbs) := Lib.hid rfl
          have HEX : Hid (extX inv l x m = extTo inv l m (x[m]?.getD 0) l.length) := Lib.hid rfl
          have HER := Lib.hid (fun j hj => extTo_rng HK.out hlt2 HRG.out j hj)
          generalize x[m]?.getD 0 = s at *
          generalize p[m]?.getD 0 = q at *
          have HBV := Lib.hid hbv
          have HXC := Lib.hid hxc
          have HPC := Lib.hid hpc
          clear hbv hbwv hpc hxc hpr
          rename World => W2
          go_wp2_with fail
          go_loopw [14, 36] (fun least i w3 => ∃ (j : Nat), j ≤ l.length ∧ i = .int .i64 j ∧ least = .int .i64 (extTo inv l m s j) ∧ Below W1.heap.size W1 w3) (fun _ i _ => l.length - (intOf i).toNat)
          case atStart => exact ⟨0, Nat.zero_le _, rfl, rfl, HBV.out⟩
          case round =>
            obtain ⟨j, hj, rfl, rfl, hb3⟩ := hrel
            by_cases hlt3 : j < l.length
            · obtain ⟨b', o', yv, e', hab3, hcy, hroy⟩ := rows_pl HL.out (List.getElem?_eq_getElem hlt3)
              cases e'
              have hb3w := HBW.out.trans (hb3.mono HBW.out.size)
              have hcy' := (hb3w.cell (p := ⟨b, o + j, Option.none⟩) hab3).trans hcy
              have HYL := Lib.hid (HK.out.len _ (List.getElem_mem hlt3))
              have HXT : Hid (extTo inv l m s (j + 1) = if inv then max (extTo inv l m s j) ((l[j]'hlt3)[m]?.getD 0) else min (extTo inv l m s j) ((l[j]'hlt3)[m]?.getD 0)) := Lib.hid (by rw [extTo, List.getElem?_eq_getElem hlt3]; rfl)
              generalize l[j]'hlt3 = y at *
              obtain ⟨AY, cy, rfl, _, _, hyr⟩ := hroy
              obtain ⟨ady, rfl, hyb, hyc⟩ := hyr.i_at (k := m) (by rw [HYL.out]; exact hlt2)
              have hyc' := (hb3w.cell (p := ady.add m) (by rw [add_block]; exact hyb)).trans hyc
              have hmy : (m : Int) < (y.length : Int) := by have := HYL.out; omega
              have HB3 := Lib.hid hb3
              generalize extTo inv l m s j = t1 at *
              generalize y[m]?.getD 0 = z at *
              clear hb3 hb3w hcy hyr hyc
              cases inv with
              | true =>
                have HZ : Hid (extTo true l m s (j + 1) = max t1 z) := Lib.hid (by rw [HXT.out, if_pos rfl])
                clear HXT
                go_wp2_with fail
                go_roundw
                case rel => exact ⟨j + 1, by omega, by go_num, by rw [HZ.out], HB3.out⟩
                case measure => simp [intOf]; omega
              | false =>
                have HZ : Hid (extTo false l m s (j + 1) = min t1 z) := Lib.hid (by rw [HXT.out, if_neg (by decide)])
                clear HXT
                go_wp2_with fail
                go_roundw
                case rel => exact ⟨j + 1, by omega, by go_num, by rw [HZ.out], HB3.out⟩
                case measure => simp [intOf]; omega
            · obtain rfl : j = l.length := by omega
              have HER2 := HER.out l.length (Nat.le_refl _)
              rw [← HEX.out] at HER2 ⊢
              have hxc3 := ((HBW.out.trans (hb3.mono HBW.out.size)).cell (p := adx.add m) (by rw [add_block]; exact hxb)).trans HXC.out
              have HB3 := Lib.hid hb3
              generalize extX inv l x m = t at *
              have hr := HRG.out
              have hd := HDF.out
              have hz1 : IntKind.i64.wrap (s - t) = s - t := IntWalk.i64_in _ (by omega)
              have hz2 : IntKind.i64.wrap (t - s) = t - s := IntWalk.i64_in _ (by omega)
              have hmax : max (s - t) (t - s) = (((s - t).natAbs : Nat) : Int) := by omega
              generalize (s - t).natAbs = N at *
              clear hb3
              have hq0 : q = (q.toNat : Int) := by have := HPR.out; omega
              have HQ0 := Lib.hid hq0
              have hN := hd
              clear hr hd hq0
              go_wp2
              go_quiet (fail)
              go_wp2
              go_loopw [11, 67] (fun n i w4 => ∃ (j : Nat), j ≤ N ∧ i = .int .i64 j ∧ n = .string ⟨(decDigits (numPT p inv l x m * q.toNat ^ j)).toArray⟩ ∧ Below W1.heap.size W1 w4) (fun _ i _ => N - (intOf i).toNat)
              case atStart => exact ⟨0, Nat.zero_le _, rfl, by rw [Nat.pow_zero, Nat.mul_one], below_drewN HB3.out _⟩
              case round =>
                obtain ⟨j, hj, rfl, rfl, hb4⟩ := hrel
                by_cases hlt4 : j < N
                · have HB4 := Lib.hid hb4
                  have HBA := Lib.hid (HBW.out.trans (hb4.mono HBW.out.size))
                  have hpr := HPR.out
                  have hl1 := HPT.out j (by omega)
                  have hl2 := HPT.out (j + 1) (by omega)
                  have HOF := Lib.hid (whOf_any q wr (by omega) (by omega) (HS.out.below HBA.out (Nat.le_refl _)))
                  have hlq : (itoa q).length ≤ 50000 := by
                    have h := itoa_len q
                    have h2 : (decDigits q.natAbs).length ≤ 19 := by rw [dec_length]; exact nDigits_le (by omega) (by omega)
                    omega
                  have HMU := Lib.hid (fun (W : World) (hW : Std W) => whMul_any ((numPT p inv l x m * q.toNat ^ j : Nat) : Int) q W hW (by rw [itoa_nat]; omega) hlq)
                  rw [num_step HQ0.out, itoa_nat] at HMU
                  have hlen : decide ((400 : Int) < ((decDigits (numPT p inv l x m * q.toNat ^ (j + 1))).length : Int)) = false := decide_eq_false (by omega)
                  clear hpr hl1 hl2 hlq hb4
                  generalize decDigits (numPT p inv l x m * q.toNat ^ j) = d1 at *
                  generalize hd2 : decDigits (numPT p inv l x m * q.toNat ^ (j + 1)) = d2 at *
                  have HD2 := Lib.hid hd2
                  clear hd2
                  go_wp2_with fail
                  refine HOF.out.mono ?_
                  rintro e w5 ⟨rfl, hb5⟩
                  have HB5 := Lib.hid (HB4.out.trans (hb5.mono HB4.out.size))
                  have HBA5 := Lib.hid (HBA.out.trans (hb5.mono HBA.out.size))
                  clear hb5
                  go_wp2_with fail
                  refine (HMU.out w5 (HS.out.below HBA5.out (Nat.le_refl _))).mono ?_
                  rintro e w6 ⟨rfl, hb6⟩
                  have HB6 := Lib.hid (HB5.out.trans (hb6.mono HB5.out.size))
                  clear hb6
                  go_wp2_with fail
                  go_roundw
                  case rel => exact ⟨j + 1, by omega, by go_num, by rw [HD2.out], HB6.out⟩
                  case measure => simp [intOf]; omega
                · obtain rfl : j = N := by omega
                  rw [← HNM.out]
                  have HB4 := Lib.hid hb4
                  clear hb4
                  go_wp2_with fail
                  go_roundw
                  case rel => exact ⟨m + 1, by omega, by go_num, rfl, HB4.out⟩
                  case measure => simp [intOf]; omega
        · obtain rfl : m = p.length := by omega
          have HTX2 := Lib.hid (HTX.out.below hbv)
          have HB2 := Lib.hid (HBW.out.trans (hbv.mono HBW.out.size))
          have hwk : w.heap.size ≤ wr.heap.size := HB2.out.size
          have hown := HTX2.out
          unfold TxtsAt at hown
          rw [HLE.out] at hown
          have HO := Lib.hid hown
          clear hown hbv
          generalize numPT p inv l x p.length = N at *
          go_wp2_with (at_builtin; refine wpList_append_own _ rfl _ _ _ rfl w.heap.size 55 i0 (.string ⟨#[]⟩) 1 16 Tryz.underlying49 hi0 hz0 hz1 hz2 rfl (by decide) _ _ _ rfl (HO.out.alloc _) ⟨wr.heap.size, 0, Option.none⟩ 1 1 [_] rfl rfl (cell_one_new _ _ _) (by intro u hu; simp at hu; subst hu; rfl) (by unfold maxLen; omega) (by omega) (by simp; omega) ?_; intro v9 w9 hown9 hg9 _)
          go_roundw
          case rel =>
            refine ⟨k + 1, by omega, by go_num, ?_, (HB2.out.alloc hwk _).grown hg9 (by simp; omega) (fun k hk => (HO.out.lt k hk).1)⟩
            unfold TxtsAt
            rw [HNX.out, txts_snoc, List.length_append, HLE.out]
            exact hown9
          case measure => simp [intOf]; omega
    · obtain rfl : k = l.length := by omega
      have HTX := Lib.hid htx
      obtain ⟨A9, c9, rfl⟩ := htx.shape
      have HNA : Hid (numsTo p inv l l.length = numbersL p inv l) := Lib.hid (numsTo_all p inv l)
      rw [HNA.out] at HTX ⊢
      clear htx
      go_wp2_with fail
      go_ret2
      exact ⟨⟨_, rfl, HTX.out⟩, hbw⟩

end Go.Proofs.YteenfcmnmenigaaGreatDoor

namespace Go.Proofs.YteenfcmnmenigaaGreatDoor
open Go.RowKit Go.Lib

set_option maxRecDepth 100000 in
set_option maxHeartbeats 2000000 in
theorem chOtonal_ok (pv : Value) (p : List Int) (A : Option Addr) (c : Nat) (l : List (List Int)) (w : World) (hS : Std w) (hp : IsRow w w.heap.size pv p) (hl : RowsAt w w.heap.size A l) (hk : ChOk p l) (hn : NumOk p false l) :
    Calls Tryz.prog 30 #[pv, .slice A l.length c] w fun e w' => (∃ v, e = .returned (.tuple #[v, .int .i64 0]) ∧ TxtsAt w' w.heap.size v (numbersL p false l)) ∧ Below w.heap.size w w' := by
  have h12 := hk.le
  have HC := Lib.hid (chCheck_any pv p A c l w hS hp hl (by omega))
  rw [hk.err] at HC
  have HN := Lib.hid (fun (W : World) (hb : Below w.heap.size w W) => numbers_ok pv p false A c l W (hS.below hb (Nat.le_refl _)) (hp.lift hb) (hl.lift hb) hn (by omega))
  obtain ⟨AP, cp, rfl⟩ := hp.shape
  clear hS hp hl hk hn
  generalize numbersL p false l = ns at *
  go_enter Tryz.func30, Tryz.ntmps30
  go_wp2_with fail
  refine HC.out.mono ?_
  rintro e w1 ⟨rfl, hb1⟩
  have HN1 := Lib.hid (HN.out w1 hb1)
  have HB1 := Lib.hid hb1
  clear hb1 HN HC
  go_wp2_with fail
  refine HN1.out.mono ?_
  rintro e w2 ⟨⟨v, rfl, ht⟩, hb2⟩
  have HB2 := Lib.hid (HB1.out.trans (hb2.mono HB1.out.size))
  have HT : Hid (TxtsAt w2 w.heap.size v ns) := Lib.hid (own_base ht HB1.out.size)
  obtain ⟨A2, c2, rfl⟩ := ht.shape
  clear ht hb2
  go_wp2_with fail
  go_ret2
  exact ⟨⟨_, rfl, HT.out⟩, HB2.out⟩

set_option maxRecDepth 100000 in
set_option maxHeartbeats 2000000 in
theorem chUtonal_ok (pv : Value) (p : List Int) (A : Option Addr) (c : Nat) (l : List (List Int)) (w : World) (hS : Std w) (hp : IsRow w w.heap.size pv p) (hl : RowsAt w w.heap.size A l) (hk : ChOk p l) (hn : NumOk p true l) :
    Calls Tryz.prog 31 #[pv, .slice A l.length c] w fun e w' => (∃ v, e = .returned (.tuple #[v, .int .i64 0]) ∧ TxtsAt w' w.heap.size v (numbersL p true l)) ∧ Below w.heap.size w w' := by
  have h12 := hk.le
  have HC := Lib.hid (chCheck_any pv p A c l w hS hp hl (by omega))
  rw [hk.err] at HC
  have HN := Lib.hid (fun (W : World) (hb : Below w.heap.size w W) => numbers_ok pv p true A c l W (hS.below hb (Nat.le_refl _)) (hp.lift hb) (hl.lift hb) hn (by omega))
  obtain ⟨AP, cp, rfl⟩ := hp.shape
  clear hS hp hl hk hn
  generalize numbersL p true l = ns at *
  go_enter Tryz.func31, Tryz.ntmps31
  go_wp2_with fail
  refine HC.out.mono ?_
  rintro e w1 ⟨rfl, hb1⟩
  have HN1 := Lib.hid (HN.out w1 hb1)
  have HB1 := Lib.hid hb1
  clear hb1 HN HC
  go_wp2_with fail
  refine HN1.out.mono ?_
  rintro e w2 ⟨⟨v, rfl, ht⟩, hb2⟩
  have HB2 := Lib.hid (HB1.out.trans (hb2.mono HB1.out.size))
  have HT : Hid (TxtsAt w2 w.heap.size v ns) := Lib.hid (own_base ht HB1.out.size)
  obtain ⟨A2, c2, rfl⟩ := ht.shape
  clear ht hb2
  go_wp2_with fail
  go_ret2
  exact ⟨⟨_, rfl, HT.out⟩, HB2.out⟩

theorem TxtsAt.cell {w : World} {base g c k : Nat} {l : List Nat} (h : TxtsAt w base (.slice (some ⟨g, 0, Option.none⟩) l.length c) l) (hk : k < l.length) : w.cell? ⟨g, k, Option.none⟩ = some (.string ⟨(decDigits l[k]).toArray⟩) := by
  have h1 := World.ownsRow.cellAt h k (by omega)
  rw [h1]
  unfold strs
  rw [List.getElem?_map, List.getElem?_map, List.getElem?_eq_getElem hk]
  rfl

def chTxt (p : List Int) (l : List (List Int)) : List UInt8 := Lib.join ((numbersL p false l).map decDigits) [58]

set_option maxRecDepth 100000 in
set_option maxHeartbeats 4000000 in
theorem chText_ok (pv : Value) (p : List Int) (A : Option Addr) (c : Nat) (l : List (List Int)) (w : World) (hS : Std w) (hp : IsRow w w.heap.size pv p) (hl : RowsAt w w.heap.size A l) (hk : ChOk p l) (hn : NumOk p false l) (hj : (chTxt p l).length ≤ 1000000) :
    Calls Tryz.prog 32 #[pv, .slice A l.length c] w fun e w' => e = .returned (.tuple #[.string ⟨(chTxt p l).toArray⟩, .int .i64 0]) ∧ Below w.heap.size w w' := by
  obtain ⟨i0, hi0, hz0, hz1, hz2⟩ := info_parts Tryz.info_string
  have h0 := hk.pos
  have h12 := hk.le
  have HO := Lib.hid (chOtonal_ok pv p A c l w hS hp hl hk hn)
  obtain ⟨AP, cp, rfl⟩ := hp.shape
  have hnl : (numbersL p false l).length = l.length := by unfold numbersL; rw [List.length_map]
  have HTX : Hid (chTxt p l = Lib.join ((numbersL p false l).map decDigits) [58]) := Lib.hid rfl
  clear hS hp hl hk hn
  generalize chTxt p l = T at *
  generalize numbersL p false l = ns at *
  have hns0 : 0 < ns.length := by omega
  have hns12 : ns.length ≤ 12 := by omega
  clear h0 h12 hnl
  have HJ : Hid (T.length ≤ 1000000) := Lib.hid hj
  clear hj
  go_enter Tryz.func32, Tryz.ntmps32
  go_wp2_with fail
  refine HO.out.mono ?_
  rintro e w1 ⟨⟨v, rfl, ht⟩, hb1⟩
  obtain ⟨g, c1, rfl⟩ : ∃ g c, v = .slice (some ⟨g, 0, Option.none⟩) ns.length c := by
    rcases ht.2 with ⟨_, h⟩ | ⟨g, cap, cur, hv, _⟩
    · omega
    · exact ⟨g, cap, hv⟩
  have HT : Hid (TxtsAt w1 w.heap.size (.slice (some ⟨g, 0, Option.none⟩) ns.length c1) ns) := Lib.hid ht
  have HB1 := Lib.hid hb1
  have hgl : g < w1.heap.size := (ht.lt g rfl).2
  clear ht hb1 HO
  go_wp2_with fail
  go_loopw [8, 19] (fun out i wr => ∃ (k : Nat), k ≤ ns.length ∧ i = .int .i64 k ∧ wr.ownsRow w1.heap.size 9 1 out k (strs ((ns.take k).map decDigits)) ∧ Below w1.heap.size w1 wr) (fun _ i _ => ns.length - (intOf i).toNat)
  case atStart => exact ⟨0, Nat.zero_le _, rfl, World.ownsRow_nil _ _ _ _, Below.refl _ _⟩
  case round =>
    obtain ⟨k, hk, rfl, hown, hbw⟩ := hrel
    by_cases hlt : k < ns.length
    · have hca := (hbw.cell (p := ⟨g, k, Option.none⟩) hgl).trans (TxtsAt.cell HT.out hlt)
      have HNX : Hid (strs ((ns.take (k + 1)).map decDigits) = strs ((ns.take k).map decDigits) ++ [.string ⟨(decDigits ns[k]).toArray⟩]) := Lib.hid (by rw [← List.take_append_getElem hlt, List.map_append, List.map_cons, List.map_nil, strs_snoc])
      generalize decDigits ns[k] = d at *
      have HOW := Lib.hid hown
      have HB := Lib.hid hbw
      have hwk : w1.heap.size ≤ wr.heap.size := hbw.size
      clear hown hbw
      go_wp2_with (at_builtin; refine wpList_append_own _ rfl _ _ _ rfl w1.heap.size 9 i0 (.string ⟨#[]⟩) 1 16 Tryz.underlying76 hi0 hz0 hz1 hz2 rfl (by decide) _ _ _ rfl (HOW.out.alloc _) ⟨wr.heap.size, 0, Option.none⟩ 1 1 [_] rfl rfl (cell_one_new _ _ _) (by intro u hu; simp at hu; subst hu; rfl) (by unfold maxLen; omega) (by omega) (by simp; omega) ?_; intro v9 w9 hown9 hg9 _)
      go_roundw
      case rel =>
        refine ⟨k + 1, by omega, by go_num, ?_, (HB.out.alloc hwk _).grown hg9 (by simp; omega) (fun k hk => (HOW.out.lt k hk).1)⟩
        rw [HNX.out]
        exact hown9
      case measure => simp [intOf]; omega
    · obtain rfl : k = ns.length := by omega
      rw [List.take_length] at hown
      have HJN := Lib.hid (join_own w1.heap.size u8 (ns.map decDigits) [58] wr (by rw [List.length_map]; exact hown) (by rw [← HTX.out]; exact HJ.out) (by rw [List.length_map]; omega))
      rw [← HTX.out] at HJN
      have HB := Lib.hid (HB1.out.trans (hbw.mono HB1.out.size))
      clear hown hbw
      go_wp2_with fail
      refine HJN.out.mono ?_
      rintro e w3 ⟨rfl, hb3⟩
      go_wp2_with fail
      go_ret2
      exact ⟨rfl, HB.out.trans (hb3.mono HB.out.size)⟩

end Go.Proofs.YteenfcmnmenigaaGreatDoor

namespace Go.Proofs.YteenfcmnmenigaaGreatDoor
open Go.RowKit Go.Lib

theorem txt_upto {x y : List (List UInt8)} {k : Nat} (hl : x.length = y.length) (h : x.take k = y.take k) (hk : k < x.length) (he : x[k]'hk = y[k]'(by omega)) : x.take (k + 1) = y.take (k + 1) := by
  rw [List.take_succ_eq_append_getElem hk, List.take_succ_eq_append_getElem (by omega), h, he]
theorem strs_at {w : World} {B n k : Nat} {A : Option Addr} {l : List (List UInt8)} (h : Row w B 1 A n (strs l)) (hk : k < l.length) : ∃ ad, A = some ad ∧ ad.block < B ∧ w.cell? (ad.add k) = some (.string ⟨(l[k]'hk).toArray⟩) := by
  obtain ⟨ad, e, hb, hc⟩ := h.get k (.string ⟨(l[k]'hk).toArray⟩) (by unfold strs; rw [List.getElem?_map, List.getElem?_eq_getElem hk]; rfl)
  exact ⟨ad, e, hb, hc⟩
theorem str_ne {a b : List UInt8} (h : a ≠ b) : ¬ ((⟨a.toArray⟩ : ByteArray) = ⟨b.toArray⟩) := fun e => h (by injection e with e; simpa using e)

set_option maxRecDepth 100000 in
set_option maxHeartbeats 1000000 in
theorem slEqI_any (A1 A2 : Option Addr) (c1 c2 : Nat) (x y : List (List UInt8)) (w : World) (hx : Row w w.heap.size 1 A1 x.length (strs x)) (hy : Row w w.heap.size 1 A2 y.length (strs y)) (hn : x.length ≤ 1000000) :
    Calls Tryz.prog 33 #[.slice A1 x.length c1, .slice A2 y.length c2] w fun e w' => e = .returned (.bool (decide (x = y))) ∧ Below w.heap.size w w' := by
  by_cases hl : x.length = y.length
  · have hne : ((x.length : Int) != (y.length : Int)) = false := by simp [hl]
    have HL := Lib.hid hl
    clear hl
    go_enter Tryz.func33, Tryz.ntmps33
    go_wp2
    go_loopw [5, 13] (fun _ i wr => ∃ k : Nat, k ≤ x.length ∧ i = .int .i64 k ∧ Box (x.take k = y.take k) ∧ Below w.heap.size w wr) (fun _ i _ => x.length - (intOf i).toNat)
    case atStart => exact ⟨0, Nat.zero_le _, rfl, ⟨by simp⟩, Below.refl _ _⟩
    case round =>
      obtain ⟨k, hk, rfl, HT, hbw⟩ := hrel
      by_cases hlt : k < x.length
      · have hly : k < y.length := by rw [← HL.out]; exact hlt
        obtain ⟨ad1, rfl, _, hc1⟩ := strs_at (hx.below hbw (Nat.le_refl _)) hlt
        obtain ⟨ad2, rfl, _, hc2⟩ := strs_at (hy.below hbw (Nat.le_refl _)) hly
        have hup := fun he => txt_upto HL.out HT.out hlt he
        have hdn : x[k]'hlt ≠ y[k]'hly → x ≠ y := fun h e => h (by subst e; rfl)
        generalize x[k]'hlt = a at *
        generalize y[k]'hly = b at *
        have HU := Lib.hid hup
        have HDN := Lib.hid hdn
        clear hup hdn
        have hk1 : (0 : Int) ≤ (k : Int) := by omega
        have hk2 : (k : Int) < (x.length : Int) := by omega
        have hk3 : (k : Int) < (y.length : Int) := by omega
        by_cases hab : a = b
        · have HAB : Box (a = b) := ⟨hab⟩
          subst hab
          go_wp2
          go_quiet (fail)
          go_wp2
          go_roundw
          case rel => exact ⟨k + 1, by omega, by go_num, ⟨HU.out HAB.out⟩, below_drewN hbw _⟩
          case measure => simp [intOf]; omega
        · have hab' : (a == b) = false := by simpa using hab
          have HE : Box (decide (x = y) = false) := ⟨decide_eq_false (HDN.out hab)⟩
          go_wp2
          go_quiet (fail)
          go_wp2
          go_ret
          exact ⟨ret1 (congrArg Value.bool HE.out.symm), below_drewN hbw _⟩
      · obtain rfl : k = x.length := by omega
        have HE : Box (decide (x = y) = true) := ⟨by
          have h := HT.out
          rw [List.take_of_length_le (Nat.le_refl _), List.take_of_length_le (by rw [HL.out]; exact Nat.le_refl _)] at h
          exact decide_eq_true h⟩
        go_wp2
        go_ret
        exact ⟨ret1 (congrArg Value.bool HE.out.symm), hbw⟩
  · have hne : ((x.length : Int) != (y.length : Int)) = true := by rw [bne_iff_ne]; omega
    have HE : Box (decide (x = y) = false) := ⟨decide_eq_false (fun e => hl (by rw [e]))⟩
    go_enter Tryz.func33, Tryz.ntmps33
    go_wp2
    go_ret
    exact ⟨ret1 (congrArg Value.bool HE.out.symm), Below.refl _ _⟩

end Go.Proofs.YteenfcmnmenigaaGreatDoor
