/- prime.divide. prime.factor of right short fractions. fraction.New, Of; prime.Factor, Smooth; target.number. interval.sizes, interval.floor. interval.equaves, Reduce, Inverse. row.IsZero, row.both, row.result, the iterator row.pairs. row.Sub. -/
import Derived.Test.YteenfcmnmenigaaGreatDoorGE
import Derived.Test.YteenfcmnmenigaaGreatDoorGTE
import Derived.Test.YteenfcmnmenigaaGreatDoorGTB
import Derived.Test.YteenfcmnmenigaaGreatDoorGTD
import Derived.Maps.AppendAt
namespace Go.Proofs.YteenfcmnmenigaaGreatDoor
open Go.RowKit Go.Lib

set_option maxHeartbeats 1000000 in
theorem divide_any (x p : Nat) (w : World) (hS : Std w) (hx : (decDigits x).length ≤ 18) (hx0 : 0 < x) (hp2 : 2 ≤ p) (hp : p ≤ 97) :
    Calls Tryz.prog 115 #[.string ⟨(decDigits x).toArray⟩, .int .i64 p] w fun e w' => e = .returned (.tuple #[.string ⟨(decDigits (left p x)).toArray⟩, .int .i64 (mult p x : Nat)]) ∧ Below w.heap.size w w' := by
  have HX : Box ((decDigits x).length ≤ 18 ∧ 0 < x) := ⟨hx, hx0⟩
  have HS := Lib.hid hS
  have hm60 := mult_le p x (len18 hx)
  have hpl : (decDigits p).length ≤ 18 := by
    rw [dec_length]
    have := nDigits_le (u := p) (k := 2) (by omega) (by omega)
    omega
  have HPL : Box ((decDigits p).length ≤ 18) := ⟨hpl⟩
  have HO := Lib.hid (fun W (hW : Std W) => whOf_any (p : Int) W (by omega) (by omega) hW)
  rw [itoa_nat] at HO
  clear hS hx hx0 hpl
  go_enter Tryz.func115, Tryz.ntmps115
  go_wp2_with fail
  refine (HO.out _ HS.out).mono ?_
  rintro e w1 ⟨rfl, hb0⟩
  have HB0 := Lib.hid hb0
  clear hb0
  go_wp2_with fail
  go_loopw [0, 7] (fun a t wr => ∃ y k : Nat, a = .string ⟨(decDigits y).toArray⟩ ∧ t = .int .i64 k ∧ k ≤ 60 ∧ Box (0 < y ∧ y ≤ x) ∧ Box (mult p x = mult p y + k) ∧ Box (left p x = left p y) ∧ Below w.heap.size w wr) (fun _ t _ => 61 - (intOf t).toNat)
  case atStart => exact ⟨x, 0, rfl, rfl, by omega, ⟨HX.out.2, Nat.le_refl _⟩, ⟨rfl⟩, ⟨rfl⟩, HB0.out⟩
  case round =>
    obtain ⟨y, k, rfl, rfl, hk, HY, HM, HL, hbw⟩ := hrel
    have hsr := HS.out.below hbw (Nat.le_refl _)
    have HSR := Lib.hid hsr
    have HD := Lib.hid (fun W (hW : Std W) => whDivMod_small y p W hW (dec18 HY.out.2 HX.out.1) HPL.out (by omega))
    have hz := dec_eq_zero (y % p)
    clear hsr
    by_cases hdv : y % p = 0
    · rw [decide_eq_true hdv] at hz
      have hz2 : (decDigits (y % p) != [48]) = false := by simp only [bne, hz]; rfl
      have hyes : 2 ≤ p ∧ 0 < y ∧ y % p = 0 := ⟨hp2, HY.out.1, hdv⟩
      have h1 := HM.out
      rw [mult_yes hyes] at h1
      have h2 := HL.out
      rw [left_yes hyes] at h2
      have hkl : k < 60 := by omega
      have HM2 : Box (mult p x = mult p (y / p) + (k + 1)) := ⟨by omega⟩
      have HL2 : Box (left p x = left p (y / p)) := ⟨h2⟩
      have HY2 : Box (0 < y / p ∧ y / p ≤ x) := ⟨by
        have hm := Nat.div_add_mod y p
        have h3 := HY.out
        refine ⟨?_, Nat.le_trans (Nat.div_le_self _ _) h3.2⟩
        rcases Nat.eq_zero_or_pos (y / p) with h0 | h0
        · rw [h0, hdv] at hm; omega
        · exact h0⟩
      clear h1 h2 hyes hdv
      generalize decDigits (y % p) = lr at *
      go_wp2_with fail
      refine (HD.out _ HSR.out).mono ?_
      rintro e w2 ⟨rfl, hb2⟩
      go_wp2_with fail
      go_roundw
      case rel =>
        exact ⟨y / p, k + 1, rfl, by go_num, by omega, HY2, HM2, HL2, hbw.trans (hb2.mono hbw.size)⟩
      case measure => simp [intOf]; omega
    · rw [decide_eq_false hdv] at hz
      have hz2 : (decDigits (y % p) != [48]) = true := by simp only [bne, hz]; rfl
      have hno : ¬ (2 ≤ p ∧ 0 < y ∧ y % p = 0) := fun h => hdv h.2.2
      have HM2 : Box (mult p x = k) := ⟨by rw [HM.out, mult_no hno]; omega⟩
      have HL2 : Box (left p x = y) := ⟨by rw [HL.out, left_no hno]⟩
      clear hno hdv
      generalize decDigits (y % p) = lr at *
      go_wp2_with fail
      refine (HD.out _ HSR.out).mono ?_
      rintro e w2 ⟨rfl, hb2⟩
      go_wp2_with fail
      go_ret2
      exact ⟨ret2 (by rw [HL2.out]; rfl) (by rw [HM2.out]; rfl), hbw.trans (hb2.mono hbw.size)⟩

end Go.Proofs.YteenfcmnmenigaaGreatDoor

namespace Go.Proofs.YteenfcmnmenigaaGreatDoor
open Go.RowKit Go.Lib

/-- Whether a fraction is one over the list. -/
def smB (p : List Int) (n d : Nat) : Bool := decide (leftTo p n p.length = 1) && decide (leftTo p d p.length = 1)
def expsZ (p : List Int) (n d k : Nat) : List Int := expsTo p n d k ++ List.replicate (p.length - k) 0
theorem expsZ_len (p : List Int) (n d : Nat) {k : Nat} (hk : k ≤ p.length) : (expsZ p n d k).length = p.length := by unfold expsZ; rw [List.length_append, expsTo_len, List.length_replicate]; omega
theorem expsZ_set (p : List Int) (n d : Nat) {k : Nat} (hk : k < p.length) : (expsZ p n d k).set k ((mult (p[k]?.getD 0).toNat (leftTo p n k) : Int) - (mult (p[k]?.getD 0).toNat (leftTo p d k) : Int)) = expsZ p n d (k + 1) := by
  unfold expsZ
  rw [expsTo, List.set_append_right _ _ (by rw [expsTo_len]; exact Nat.le_refl _), expsTo_len, Nat.sub_self, show p.length - k = (p.length - (k + 1)) + 1 by omega, List.replicate_succ, List.set_cons_zero, List.append_assoc]
  rfl

theorem is_set2 (x : List Int) (k : Nat) (z : Int) : (is x).set k (.int .i64 z) = is (x.set k z) := by unfold is; rw [List.map_set]

set_option maxRecDepth 100000 in
set_option maxHeartbeats 2000000 in
theorem factor_any (pv : Value) (p : List Int) (n d : Nat) (w : World) (hS : Std w) (hpv : IsRow w w.heap.size pv p) (hp : primeErr p = 0) (hn : (decDigits n).length ≤ 18) (hd : (decDigits d).length ≤ 18) (hn0 : 0 < n) (hd0 : 0 < d) :
    Calls Tryz.prog 81 #[pv, .agg #[.string ⟨(decDigits n).toArray⟩, .string ⟨(decDigits d).toArray⟩]] w fun e w' => (∃ v, e = .returned (.tuple #[v, .bool (smB p n d)]) ∧ ORow w' v (expsTo p n d p.length)) ∧ Below w.heap.size w w' := by
  obtain ⟨i0, hi0, hz0, hz1, hz2⟩ := info_parts Tryz.info_int
  obtain ⟨hp6, hp1, hpr⟩ := right_primes hp
  have hsg : sgn (n : Int) = 1 := by unfold sgn; rw [if_neg (by omega), if_neg (by omega)]
  have hln : (itoa (n : Int)).length ≤ 100000 := by rw [itoa_nat]; omega
  have HSG := Lib.hid (fun W => fracSign_any (n : Int) (decDigits d) W hln)
  rw [hsg, itoa_nat] at HSG
  have HN : Box ((decDigits n).length ≤ 18 ∧ 0 < n) := ⟨hn, hn0⟩
  have HD : Box ((decDigits d).length ≤ 18 ∧ 0 < d) := ⟨hd, hd0⟩
  have HS := Lib.hid hS
  have HPV := Lib.hid hpv
  have HPR : Box (∀ k, k < p.length → 2 ≤ p[k]?.getD 0 ∧ p[k]?.getD 0 ≤ 97) := ⟨hpr⟩
  obtain ⟨AP, cp, rfl, _⟩ := hpv
  have HSM : Hid (smB p n d = (decide (leftTo p n p.length = 1) && decide (leftTo p d p.length = 1))) := Lib.hid rfl
  clear hsg hln hn hd hn0 hd0 hS hp hpr
  generalize hla : decDigits n = la at *
  generalize hlb : decDigits d = lb at *
  have HLA : Box (decDigits n = la) := ⟨hla⟩
  have HLB : Box (decDigits d = lb) := ⟨hlb⟩
  clear hla hlb
  go_enter Tryz.func81, Tryz.ntmps81
  go_wp2_with fail
  refine (HSG.out _).mono ?_
  rintro e w1 ⟨rfl, hb1⟩
  have hb1' : Below (w.heap.size + 1) (w.alloc (.cells #[.string ⟨la.toArray⟩, .string ⟨lb.toArray⟩] 72)) w1 := by rw [World.size_alloc] at hb1; exact hb1
  have hw1 : w.heap.size + 1 ≤ w1.heap.size := by have := hb1.size; rw [World.size_alloc] at this; exact this
  go_wp2_with (at_make; refine wpList_make_full _ rfl _ _ _ rfl w1.heap.size 3 i0 _ 1 Tryz.underlying31 hi0 hz0 hz1 .i64 .i64 _ _ p.length rfl rfl (by omega) (by omega) (by rw [hz2]; omega) (by unfold maxLen; omega) (Nat.le_refl _) ?_; intro w2 hown hg2; have hb2 : Below w1.heap.size w1 w2 := (Below.refl _ _).grown hg2 (Nat.le_refl _) (by simp))
  have hc2 : Cells w2 w1.heap.size 3 (is (List.replicate p.length 0)) := (Cells.of_full (by rw [← made_int]; exact hown))
  have hbw2 := hb1'.trans (hb2.mono hw1)
  obtain ⟨q0, q1⟩ := rat_cells hbw2
  go_wp2_with fail
  go_quiet (fail)
  have hc3 := hc2.drewN nq
  have hbw3 := below_drewN (below_result hbw2) nq
  clear hc2 hbw2 q0 q1 hown hg2 hb2 hb1 hb1'
  have hgw : w.heap.size < w1.heap.size := by omega
  generalize w1.heap.size = g at *
  have HC3 := Lib.hid hc3
  have HB3 := Lib.hid hbw3
  clear hc3 hbw3
  go_wp2_with fail
  go_loopw [7, 8, 25] (fun a b i wr => ∃ k : Nat, k ≤ p.length ∧ i = .int .i64 k ∧ a = .string ⟨(decDigits (leftTo p n k)).toArray⟩ ∧ b = .string ⟨(decDigits (leftTo p d k)).toArray⟩ ∧ Cells wr g 3 (is (expsZ p n d k)) ∧ Below w.heap.size w wr) (fun _ _ i _ => p.length - (intOf i).toNat)
  case atStart => exact ⟨0, Nat.zero_le _, rfl, by rw [leftTo, HLA.out], by rw [leftTo, HLB.out], by unfold expsZ expsTo; rw [Nat.sub_zero, List.nil_append]; exact HC3.out, HB3.out⟩
  case round =>
    clear HC3 HB3
    obtain ⟨k, hk, rfl, rfl, rfl, hcl, hbw⟩ := hrel
    by_cases hlt : k < p.length
    · obtain ⟨A', c', e', _, _, hr⟩ := HPV.out
      injection e' with e1 _ e3
      subst e1 e3
      obtain ⟨ad, rfl, _, hca⟩ := (hr.below hbw (Nat.le_refl _)).i_at hlt
      clear hr
      have hpk := HPR.out k hlt
      have hl1 := leftTo_le p n HN.out.2 k
      have hl2 := leftTo_le p d HD.out.2 k
      have e1 : leftTo p n (k + 1) = left (p[k]?.getD 0).toNat (leftTo p n k) := rfl
      have e2 : leftTo p d (k + 1) = left (p[k]?.getD 0).toNat (leftTo p d k) := rfl
      have e3 := expsZ_set p n d hlt
      have hex : ∃ u, (is (expsZ p n d k))[k]? = some u := ⟨_, List.getElem?_eq_getElem (by rw [is_length, expsZ_len p n d hk]; exact hlt)⟩
      obtain ⟨u0, hu0⟩ := hex
      generalize p[k]?.getD 0 = q0 at *
      obtain ⟨q, rfl⟩ : ∃ q : Nat, q0 = (q : Int) := ⟨q0.toNat, by omega⟩
      rw [Int.toNat_natCast] at e1 e2 e3
      have hdn : (decDigits (leftTo p n k)).length ≤ 18 := dec18 hl1.1 (by rw [HLA.out]; exact HN.out.1)
      have hdd : (decDigits (leftTo p d k)).length ≤ 18 := dec18 hl2.1 (by rw [HLB.out]; exact HD.out.1)
      have hm1 := mult_le q (leftTo p n k) (len18 hdn)
      have hm2 := mult_le q (leftTo p d k) (len18 hdd)
      have HE1 := Lib.hid (fun W hW => divide_any (leftTo p n k) q W hW hdn hl1.2 (by omega) (by omega))
      have HE2 := Lib.hid (fun W hW => divide_any (leftTo p d k) q W hW hdd hl2.2 (by omega) (by omega))
      have hsr := HS.out.below hbw (Nat.le_refl _)
      have HSR := Lib.hid hsr
      have E1 := Lib.hid e1
      have E2 := Lib.hid e2
      have E3 := Lib.hid e3
      have HU0 := Lib.hid hu0
      have HC := Lib.hid hcl
      have HB := Lib.hid hbw
      have hgl := hcl.lt
      clear e1 e2 e3 hl1 hl2 hdn hdd hsr hu0 hcl hbw
      generalize mult q (leftTo p n k) = m1 at *
      generalize mult q (leftTo p d k) = m2 at *
      go_wp2_with fail
      refine (HE1.out _ HSR.out).mono ?_
      rintro e w3 ⟨rfl, hb3⟩
      have HB4 := Lib.hid (HB.out.trans (hb3.mono HB.out.size))
      have HC4 := Lib.hid (HC.out.below hb3 HC.out.lt)
      clear hb3
      go_wp2_with fail
      refine (HE2.out _ (HS.out.below HB4.out (Nat.le_refl _))).mono ?_
      rintro e w5 ⟨rfl, hb5⟩
      have HB6 := Lib.hid (HB4.out.trans (hb5.mono HB4.out.size))
      have hc6 := HC4.out.below hb5 HC4.out.lt
      have HC6 := Lib.hid hc6
      have v0 := (hc6.cell k).trans HU0.out
      have f0 := hc6.free k
      clear hb5 hc6
      go_wp2_with fail
      go_roundw
      case rel =>
        refine ⟨k + 1, by omega, by go_num, by rw [E1.out], by rw [E2.out], ?_, HB6.out.setCell (by show w.heap.size ≤ g; omega) _⟩
        rw [← E3.out, ← is_set2]
        exact HC6.out.set k _
      case measure => simp [intOf]; omega
    · obtain rfl : k = p.length := by omega
      have h1 := dec_eq_one (leftTo p n p.length)
      have h2 := dec_eq_one (leftTo p d p.length)
      have hri : ORow wr (.slice (some ⟨g, 0, Option.none⟩) p.length p.length) (expsTo p n d p.length) := by
        have hcl2 := hcl
        unfold expsZ at hcl2
        rw [Nat.sub_self, List.replicate_zero, List.append_nil] at hcl2
        exact ORow.of_cells hcl2 (expsTo_len _ _ _ _) (by omega)
      have HR := Lib.hid hri
      have HB := Lib.hid hbw
      clear hri hcl hbw
      have hsm := HSM.out
      obtain ⟨b1, hb1⟩ : ∃ b, b = decide (leftTo p n p.length = 1) := ⟨_, rfl⟩
      obtain ⟨b2, hb2⟩ : ∃ b, b = decide (leftTo p d p.length = 1) := ⟨_, rfl⟩
      rw [← hb1] at h1 hsm
      rw [← hb2] at h2 hsm
      clear hb1 hb2
      cases b1 <;> cases b2
      all_goals
        simp at hsm
        have HSM2 := Lib.hid hsm
        clear hsm
        go_wp2_with fail
        go_ret2
        exact ⟨⟨_, by rw [HSM2.out]; rfl, HR.out⟩, HB.out⟩

theorem far1_any (v : Int) (w : World) : Calls Tryz.prog 116 #[.int .i64 v] w fun e w' => e = .returned (.bool (farB v)) ∧ w = w' := by
  have HE : Hid (farB v = (decide (1000 < v) || decide (v < -1000))) := Lib.hid rfl
  by_cases h1 : 1000 < v
  · have e : farB v = true := by rw [HE.out, decide_eq_true h1]; rfl
    go_enter Tryz.func116, Tryz.ntmps116
    go_wp2_with fail
    go_ret
    exact ⟨by first | rfl | (rw [e]; rfl), rfl⟩
  · by_cases h2 : v < -1000
    · have e : farB v = true := by rw [HE.out, decide_eq_true h2, Bool.or_true]
      go_enter Tryz.func116, Tryz.ntmps116
      go_wp2_with fail
      go_ret
      exact ⟨by first | rfl | (rw [e]; rfl), rfl⟩
    · have e : farB v = false := by rw [HE.out, decide_eq_false h1, decide_eq_false h2]; rfl
      go_enter Tryz.func116, Tryz.ntmps116
      go_wp2_with fail
      go_ret
      exact ⟨by first | rfl | (rw [e]; rfl), rfl⟩

theorem far_any (v : Value) (x : List Int) (w : World) (hv : IsRow w w.heap.size v x) :
    Calls Tryz.prog 82 #[v] w fun e w' => e = .returned (.bool (x.any farB)) ∧ Below w.heap.size w w' := by
  have HC : Calls Tryz.prog 50 #[v, .func (.func 116) #[] #[]] w fun e w' => e = .returned (.bool (x.any farB)) ∧ Below w.heap.size w w' := by
    obtain ⟨A, c, rfl, hc, hm, hr⟩ := hv
    unfold maxLen at hm
    rcases Nat.eq_zero_or_pos x.length with h0 | h0
    · have : x = [] := List.eq_nil_of_length_eq_zero h0
      subst this
      exact (Tryz.slices_ContainsFunc_f50_empty (α := Int) A c _ w).mono fun e w' ⟨h1, h2⟩ => ⟨h1, h2 ▸ Below.refl _ _⟩
    · obtain ⟨b, o, rfl, _, hcell⟩ := hr.plain h0
      have h := Tryz.slices_ContainsFunc_f50 (Value.int .i64) farB 116 #[] (fun args w => enters_of Tryz.func116 (by kernel_rfl) rfl args w) b o x.length c x w
        (fun W y _ => (far1_any y W).mono fun e w' ⟨h1, h2⟩ => ⟨h1, 0, by rw [World.drewN_zero]; exact h2.symm⟩) (Nat.le_refl _) (by omega) (fun j hj => by rw [hcell j hj, getElem!_pos x j hj, List.getElem?_eq_getElem hj]; rfl)
      rw [List.take_of_length_le (Nat.le_refl _)] at h
      exact h.mono fun e w' ⟨h1, h2⟩ => ⟨h1, drew_below h2⟩
  have HH := Lib.hid HC
  obtain ⟨A, c, rfl⟩ := hv.shape
  clear HC hv
  generalize x.any farB = b at *
  go_enter Tryz.func82, Tryz.ntmps82
  go_wp2_with (go_at_call 50; refine HH.out.mono ?_; rintro e w1 ⟨rfl, hb1⟩)
  go_ret
  exact ⟨rfl, hb1⟩

set_option maxHeartbeats 1000000 in
theorem primeOpen_any (pv : Value) (p : List Int) (n d : Nat) (w : World) (hS : Std w) (hpv : IsRow w w.heap.size pv p) (hn : (decDigits n).length ≤ 18) (hd : (decDigits d).length ≤ 18) (hd0 : 0 < d) (hg : Nat.gcd n d = 1) :
    Calls Tryz.prog 79 #[pv, .agg #[.string ⟨(decDigits n).toArray⟩, .string ⟨(decDigits d).toArray⟩]] w fun e w' => e = .returned (.int .i64 (primeErr p)) ∧ Below w.heap.size w w' := by
  have hba : Below w.heap.size w (w.alloc (.cells #[.string ⟨(decDigits n).toArray⟩, .string ⟨(decDigits d).toArray⟩] 72)) := (Below.refl _ _).alloc (Nat.le_refl _) _
  have HPC := Lib.hid (primeCheck_any pv p _ _ (hpv.lift hba))
  have HFC := Lib.hid (fun W hW => fracCheck_yes (n : Int) (d : Int) W hW (by simpa using hn) (by simpa using hd) (by omega) (by simpa using hg))
  rw [itoa_nat, itoa_nat] at HFC
  have HS := Lib.hid hS
  have HBA := Lib.hid hba
  have HNC := Lib.hid (Cells.new w 72 #[.string ⟨(decDigits n).toArray⟩, .string ⟨(decDigits d).toArray⟩])
  obtain ⟨AP, cp, rfl⟩ := hpv.shape
  clear hS hpv hn hd hd0 hg hba
  generalize decDigits n = la at *
  generalize decDigits d = lb at *
  go_enter Tryz.func79, Tryz.ntmps79
  go_wp2_with fail
  refine HPC.out.mono ?_
  rintro e w1 ⟨rfl, hw⟩
  have hw2 := hw.symm
  clear hw
  subst hw2
  by_cases hE : primeErr p = 0
  · rw [hE]
    go_wp2_with fail
    refine (HFC.out _ (HS.out.below HBA.out (Nat.le_refl _))).mono ?_
    rintro e w2 ⟨rfl, hb2⟩
    have HB2 := Lib.hid (HBA.out.trans (hb2.mono HBA.out.size))
    clear hb2
    go_wp2_with fail
    go_ret
    exact ⟨by rw [hE]; rfl, HB2.out⟩
  · generalize hE2 : primeErr p = E at *
    go_wp2_with fail
    go_ret
    exact ⟨by rw [hE2]; rfl, HBA.out⟩

end Go.Proofs.YteenfcmnmenigaaGreatDoor

namespace Go.Proofs.YteenfcmnmenigaaGreatDoor
open Go.RowKit Go.Lib

set_option maxHeartbeats 1000000 in
theorem fracNew_any (n d : Int) (w : World) (hS : Std w) (hn : (itoa n).length ≤ 50000) (hd : (itoa d).length ≤ 50000) (hd0 : 0 < d) :
    Calls Tryz.prog 77 #[.string ⟨(itoa n).toArray⟩, .string ⟨(itoa d).toArray⟩] w fun e w' => e = .returned (.tuple #[.agg #[.string ⟨(itoa (lowN n d)).toArray⟩, .string ⟨(itoa (lowD n d)).toArray⟩], .int .i64 0]) ∧ Below w.heap.size w w' := by
  have HSG := Lib.hid (fun W => whSign_any d W (by omega))
  have hsg : sgn d = 1 := by unfold sgn; rw [if_neg (by omega), if_neg (by omega)]
  rw [hsg] at HSG
  have HL := Lib.hid (fun W hW => lowest_any n d W hW hn hd hd0)
  have HS := Lib.hid hS
  have hba : Below w.heap.size w (w.alloc (.cells #[.string ⟨#[]⟩, .string ⟨#[]⟩] 72)) := (Below.refl _ _).alloc (Nat.le_refl _) _
  have HBA := Lib.hid hba
  have HNC := Lib.hid (Cells.new w 72 #[.string ⟨#[]⟩, .string ⟨#[]⟩])
  clear hS hn hd hd0 hsg hba
  generalize lowN n d = ln at *
  generalize lowD n d = ld at *
  go_enter Tryz.func77, Tryz.ntmps77
  go_wp2_with fail
  refine (HSG.out _).mono ?_
  rintro e w1 ⟨rfl, hw⟩
  have hb1 : Below (w.alloc (.cells #[.string ⟨#[]⟩, .string ⟨#[]⟩] 72)).heap.size (w.alloc (.cells #[.string ⟨#[]⟩, .string ⟨#[]⟩] 72)) w1 := (by rw [← hw]; exact Below.refl _ _)
  have HB1 := Lib.hid (HBA.out.trans (hb1.mono HBA.out.size))
  have HC1 := Lib.hid (HNC.out.below hb1 HNC.out.lt)
  clear hw hb1
  go_wp2_with fail
  refine (HL.out _ (HS.out.below HB1.out (Nat.le_refl _))).mono ?_
  rintro e w2 ⟨rfl, hb2⟩
  have HB2 := Lib.hid (HB1.out.trans (hb2.mono HB1.out.size))
  have hc := HC1.out.below hb2 HC1.out.lt
  have z0 := hc.cell 0
  have z1 := hc.cell 1
  have y0 := hc.free 0
  have y1 := hc.free 1
  simp at z0 z1
  clear hb2 hc
  go_wp2_with fail
  refine bodyPost_ret (v := .tuple #[.agg #[.string ⟨(itoa ln).toArray⟩, .string ⟨(itoa ld).toArray⟩], .int .i64 0]) (by simp (maxDischargeDepth := 10) [results, Tryz.results77, go_sem, z0, z1]) rfl ⟨rfl, ?_⟩
  exact (HB2.out.setCell (Nat.le_refl _) _).setCell (Nat.le_refl _) _

set_option maxHeartbeats 1000000 in
theorem fracOf_any (n d : Int) (w : World) (hS : Std w) (hn : n.natAbs ≤ 1000000000000000000) (hd : d.natAbs ≤ 1000000000000000000) (hd0 : 0 < d) :
    Calls Tryz.prog 53 #[.int .i64 n, .int .i64 d] w fun e w' => e = .returned (.tuple #[.agg #[.string ⟨(itoa (lowN n d)).toArray⟩, .string ⟨(itoa (lowD n d)).toArray⟩], .int .i64 0]) ∧ Below w.heap.size w w' := by
  have hlen : ∀ z : Int, z.natAbs ≤ 1000000000000000000 → (itoa z).length ≤ 50000 := fun z hz => by
    have h := itoa_len z
    have h2 : (decDigits z.natAbs).length ≤ 19 := by rw [dec_length]; exact nDigits_le (by omega) (by omega)
    omega
  have HN := Lib.hid (fun W hW => whOf_any n W (by omega) (by omega) hW)
  have HD := Lib.hid (fun W hW => whOf_any d W (by omega) (by omega) hW)
  have HW := Lib.hid (fun W hW => fracNew_any n d W hW (hlen n hn) (hlen d hd) hd0)
  have HS := Lib.hid hS
  have hba : Below w.heap.size w (w.alloc (.cells #[.string ⟨#[]⟩, .string ⟨#[]⟩] 72)) := (Below.refl _ _).alloc (Nat.le_refl _) _
  have HBA := Lib.hid hba
  have HNC := Lib.hid (Cells.new w 72 #[.string ⟨#[]⟩, .string ⟨#[]⟩])
  clear hS hn hd hd0 hlen hba
  generalize lowN n d = ln at *
  generalize lowD n d = ld at *
  go_enter Tryz.func53, Tryz.ntmps53
  go_wp2_with fail
  refine (HN.out _ (HS.out.below HBA.out (Nat.le_refl _))).mono ?_
  rintro e w1 ⟨rfl, hb1⟩
  have HB1 := Lib.hid (HBA.out.trans (hb1.mono HBA.out.size))
  have HC1 := Lib.hid (HNC.out.below hb1 HNC.out.lt)
  clear hb1
  go_wp2_with fail
  refine (HD.out _ (HS.out.below HB1.out (Nat.le_refl _))).mono ?_
  rintro e w2 ⟨rfl, hb2⟩
  have HB2 := Lib.hid (HB1.out.trans (hb2.mono HB1.out.size))
  have HC2 := Lib.hid (HC1.out.below hb2 HC1.out.lt)
  clear hb2
  go_wp2_with fail
  refine (HW.out _ (HS.out.below HB2.out (Nat.le_refl _))).mono ?_
  rintro e w3 ⟨rfl, hb3⟩
  have HB3 := Lib.hid (HB2.out.trans (hb3.mono HB2.out.size))
  have hc := HC2.out.below hb3 HC2.out.lt
  have z0 := hc.cell 0
  have z1 := hc.cell 1
  have y0 := hc.free 0
  have y1 := hc.free 1
  simp at z0 z1
  clear hb3 hc
  go_wp2_with fail
  refine bodyPost_ret (v := .tuple #[.agg #[.string ⟨(itoa ln).toArray⟩, .string ⟨(itoa ld).toArray⟩], .int .i64 0]) (by simp (maxDischargeDepth := 10) [results, Tryz.results53, go_sem, z0, z1]) rfl ⟨rfl, ?_⟩
  exact (HB3.out.setCell (Nat.le_refl _) _).setCell (Nat.le_refl _) _

theorem dec99 {n : Nat} (h : n ≤ 99) : (decDigits n).length ≤ 18 := by
  rw [dec_length]
  have := nDigits_le (u := n) (k := 2) (by omega) (by omega)
  omega

theorem small_exps {p : List Int} {n d : Nat} (hn : n < 10 ^ 18) (hd : d < 10 ^ 18) (n0 : 0 < n) (d0 : 0 < d) : (expsTo p n d p.length).any farB = false := by
  rw [List.any_eq_false]
  intro v hv
  have h := expsTo_small p n d hn hd n0 d0 p.length v hv
  unfold farB
  simp
  omega

/-- What Factor returns of n / 1 over a right list. -/
def FacPost (p : List Int) (n : Nat) (e : Ending) (w' : World) : Prop :=
  (smB p n 1 = true ∧ ∃ v, e = .returned (.tuple #[v, .int .i64 0]) ∧ ORow w' v (expsTo p n 1 p.length)) ∨ (smB p n 1 = false ∧ e = .returned (.tuple #[.slice Option.none 0 0, .int .i64 25]))

set_option maxHeartbeats 1000000 in
theorem primeFactor_any (pv : Value) (p : List Int) (n : Nat) (w : World) (hS : Std w) (hpv : IsRow w w.heap.size pv p) (hp : primeErr p = 0) (hn : n ≤ 99) (hn0 : 0 < n) :
    Calls Tryz.prog 54 #[pv, .agg #[.string ⟨(decDigits n).toArray⟩, .string ⟨#[49]⟩]] w fun e w' => FacPost p n e w' ∧ Below w.heap.size w w' := by
  have hba : Below w.heap.size w (w.alloc (.cells #[.string ⟨(decDigits n).toArray⟩, .string ⟨#[49]⟩] 72)) := (Below.refl _ _).alloc (Nat.le_refl _) _
  have HO := Lib.hid (primeOpen_any pv p n 1 _ (hS.below hba (Nat.le_refl _)) (hpv.lift hba) (dec99 hn) (by decide +kernel) (by decide) (Nat.gcd_one_right n))
  have HF := Lib.hid (fun W hb => factor_any pv p n 1 W (hS.below (w := w) (B := w.heap.size) hb (Nat.le_refl _)) (hpv.lift hb) hp (dec99 hn) (by decide +kernel) hn0 (by decide))
  have hsg : sgn (n : Int) = 1 := by unfold sgn; rw [if_neg (by omega), if_neg (by omega)]
  have HSG := Lib.hid (fun W => fracSign_any (n : Int) [49] W (by rw [itoa_nat]; have := dec99 hn; omega))
  rw [hsg, itoa_nat] at HSG
  have HFR := Lib.hid (fun W v h => far_any v (expsTo p n 1 p.length) W h)
  rw [small_exps (by omega) (by decide) hn0 (by decide)] at HFR
  rw [hp, dec_one] at HO
  rw [dec_one] at HF
  have HBA := Lib.hid hba
  have HNC := Lib.hid (Cells.new w 72 #[.string ⟨(decDigits n).toArray⟩, .string ⟨#[49]⟩])
  obtain ⟨AP, cp, rfl⟩ := hpv.shape
  clear hS hpv hp hn hn0 hba hsg
  generalize decDigits n = la at *
  go_enter Tryz.func54, Tryz.ntmps54
  go_wp2_with fail
  refine HO.out.mono ?_
  rintro e w1 ⟨rfl, hb1⟩
  have HB1 := Lib.hid (HBA.out.trans (hb1.mono HBA.out.size))
  have hc := HNC.out.below hb1 HNC.out.lt
  have z0 := hc.cell 0
  have z1 := hc.cell 1
  simp at z0 z1
  have HC1 := Lib.hid hc
  clear hb1 hc
  go_wp2_with fail
  refine (HSG.out _).mono ?_
  rintro e w2 ⟨rfl, hb2⟩
  have HB2 := Lib.hid (HB1.out.trans (hb2.mono HB1.out.size))
  have hc := HC1.out.below hb2 HC1.out.lt
  have z0' := hc.cell 0
  have z1' := hc.cell 1
  simp at z0' z1'
  clear hb2 hc z0 z1
  go_wp2_with fail
  refine (HF.out _ HB2.out).mono ?_
  rintro e w3 ⟨⟨v, rfl, hr⟩, hb3⟩
  have HB3 := Lib.hid (HB2.out.trans (hb3.mono HB2.out.size))
  have HFF := Lib.hid (HFR.out _ _ hr.row)
  have HR := Lib.hid hr
  obtain ⟨AV, cv, rfl⟩ := hr.shape
  clear hb3 hr
  by_cases hs : smB p n 1 = true
  · have HSM := Lib.hid hs
    rw [hs]
    clear hs
    go_wp2_with fail
    refine HFF.out.mono ?_
    rintro e w4 ⟨rfl, hb4⟩
    have HB4 := Lib.hid (HB3.out.trans (hb4.mono HB3.out.size))
    have HR4 := Lib.hid (HR.out.below hb4)
    clear hb4
    go_wp2_with fail
    go_ret2
    exact ⟨.inl ⟨HSM.out, _, rfl, HR4.out⟩, HB4.out⟩
  · have hs2 : smB p n 1 = false := by simpa using hs
    have HSM := Lib.hid hs2
    rw [hs2]
    clear hs hs2
    go_wp2_with fail
    go_ret2
    exact ⟨.inr ⟨HSM.out, rfl⟩, HB3.out⟩

/-- What number returns over a right list. -/
def NumPost (p : List Int) (n : Nat) (e : Ending) (w' : World) : Prop :=
  (smB p n 1 = true ∧ ∃ v, e = .returned (.tuple #[v, .bool true]) ∧ ORow w' v (expsTo p n 1 p.length)) ∨ (smB p n 1 = false ∧ e = .returned (.tuple #[.slice Option.none 0 0, .bool false]))

end Go.Proofs.YteenfcmnmenigaaGreatDoor

namespace Go.Proofs.YteenfcmnmenigaaGreatDoor
open Go.RowKit Go.Lib

theorem Tryz.info_Size : (Tryz.prog.info? 213).map (fun i => (i.zero, i.size, i.bytes)) = some (some (.slice Option.none 0 0), 1, 24) := by kernel_rfl

/-- The first k sizes, as made. -/
def SzsTo (w : World) (B : Nat) (vs : List Value) (l : List (List Int)) (k : Nat) : Prop := vs.length = k ∧ ∀ j, j < k → ∃ v x, vs[j]? = some v ∧ l[j]? = some x ∧ SzAt w B v x

theorem SzAt.grown {w w' : World} {B : Nat} {v : Value} {x : List Int} {base n s : Nat} {e : TypeId} {v2 : Value} {xs : List Value} (h : SzAt w B v x) (ho : w.ownsRow base e s v2 n xs) (hne : e ≠ 72) (hg : w.grownBy w' v2.ownBlock) : SzAt w' B v x := by
  obtain ⟨g, rfl, hB, hc⟩ := h
  exact ⟨g, rfl, hB, hc.grown hg (own_ne_cells ho hc hne)⟩
theorem SzAt.below {w w' : World} {B : Nat} {v : Value} {x : List Int} (h : SzAt w B v x) (hb : Below w.heap.size w w') : SzAt w' B v x := by
  obtain ⟨g, rfl, hB, hc⟩ := h
  exact ⟨g, rfl, hB, hc.below hb hc.lt⟩
theorem SzAt.alloc {w : World} {B : Nat} {v : Value} {x : List Int} (h : SzAt w B v x) (o : Obj) : SzAt (w.alloc o) B v x := h.below ((Below.refl _ _).alloc (Nat.le_refl _) _)

set_option maxRecDepth 100000 in
set_option maxHeartbeats 2000000 in
theorem ivSizes (pv : Value) (p : List Int) (A : Option Addr) (c : Nat) (l : List (List Int)) (w : World) (hS : Std w) (hp : IsRow w w.heap.size pv p) (hl : RowsAt w w.heap.size A l) (hr : ∀ x ∈ l, chkAll p [x] = 0) (hn : l.length ≤ 1000) :
    Calls Tryz.prog 176 #[pv, .slice A l.length c] w fun e w' => (∃ v vs, e = .returned v ∧ w'.ownsRow w.heap.size 213 1 v l.length vs ∧ SzsTo w' w.heap.size vs l l.length) ∧ Below w.heap.size w w' := by
  obtain ⟨i0, hi0, hz0, hz1, hz2⟩ := info_parts Tryz.info_Size
  have HS := Lib.hid hS
  have HP := Lib.hid hp
  obtain ⟨AP, cp, rfl⟩ := hp.shape
  have HL : Box (RowsAt w w.heap.size A l) := ⟨hl⟩
  have HR : Box (∀ x ∈ l, chkAll p [x] = 0) := ⟨hr⟩
  clear hS hp hl hr
  go_enter Tryz.func176, Tryz.ntmps176
  go_wp2_with fail
  go_loopw [5, 12] (fun o i wr => ∃ (k : Nat) (vs : List Value), k ≤ l.length ∧ i = .int .i64 k ∧ wr.ownsRow w.heap.size 213 1 o k vs ∧ SzsTo wr w.heap.size vs l k ∧ Below w.heap.size w wr) (fun _ i _ => l.length - (intOf i).toNat)
  case atStart => exact ⟨0, [], Nat.zero_le _, rfl, World.ownsRow_nil _ _ _ _, ⟨rfl, fun j hj => by omega⟩, Below.refl _ _⟩
  case round =>
    obtain ⟨k, vs, hk, rfl, hown, hss, hbw⟩ := hrel
    by_cases hlt : k < l.length
    · obtain ⟨ad, v, rfl, hab, hca, hrow⟩ := HL.out.get k l[k] (List.getElem?_eq_getElem hlt)
      have hca' := (hbw.cell (p := ad.add k) (by rw [add_block]; exact hab)).trans hca
      have hck := HR.out _ (List.getElem_mem hlt)
      have HF := Lib.hid (szOf _ v p l[k] wr (HS.out.below hbw (Nat.le_refl _)) (HP.out.lift hbw) (hrow.lift hbw) hck)
      obtain ⟨AX, cx, rfl⟩ := hrow.shape
      have HO := Lib.hid hown
      have HSS := Lib.hid hss
      have HB := Lib.hid hbw
      have HXK := Lib.hid (List.getElem?_eq_getElem hlt)
      clear hown hss hca hrow hck hbw
      generalize l[k]'hlt = x at *
      go_wp2_with fail
      refine HF.out.mono ?_
      rintro e w2 ⟨⟨v2, rfl, hsz⟩, hb2⟩
      obtain ⟨g2, rfl, hge, hgc⟩ := hsz
      have HSZ : Hid (SzAt w2 w.heap.size (.slice (some ⟨g2, 0, Option.none⟩) x.length x.length) x) := Lib.hid ⟨g2, rfl, Nat.le_trans HB.out.size hge, hgc⟩
      have HO2 := Lib.hid (own_below HO.out hb2)
      have HB2 := Lib.hid (HB.out.trans (hb2.mono HB.out.size))
      have HSS2 : Hid (SzsTo w2 w.heap.size vs l k) := Lib.hid ⟨HSS.out.1, fun j hj => by
        obtain ⟨v, y, h1, h2, h3⟩ := HSS.out.2 j hj
        exact ⟨v, y, h1, h2, h3.below hb2⟩⟩
      have hwk : w.heap.size ≤ w2.heap.size := HB2.out.size
      clear hb2 hge hgc
      go_wp2_with (at_builtin; refine wpList_append_own _ rfl _ _ _ rfl w.heap.size 213 i0 (.slice Option.none 0 0) 1 24 Tryz.underlying209 hi0 hz0 hz1 hz2 rfl (by decide) _ _ _ rfl (HO2.out.alloc _) ⟨w2.heap.size, 0, Option.none⟩ 1 1 [_] rfl rfl (cell_one_new _ _ _) (by intro u hu; simp at hu; subst hu; rfl) (by unfold maxLen; omega) (by omega) (by simp; omega) ?_; intro v3 w3 hown3 hg3 _)
      go_roundw
      case rel =>
        refine ⟨k + 1, _, by omega, by go_num, hown3, ⟨by rw [List.length_append, HSS.out.1]; rfl, fun j hj => ?_⟩, (HB2.out.alloc hwk _).grown hg3 (by simp; omega) (fun k hk => (HO2.out.lt k hk).1)⟩
        by_cases hjk : j = k
        · subst hjk
          refine ⟨_, x, by rw [List.getElem?_append_right (by rw [HSS.out.1]; exact Nat.le_refl _), HSS.out.1, Nat.sub_self]; rfl, HXK.out, (HSZ.out.alloc _).grown (HO2.out.alloc _) (by decide) hg3⟩
        · obtain ⟨v, y, h1, h2, h3⟩ := HSS2.out.2 j (by omega)
          exact ⟨v, y, by rw [List.getElem?_append_left (by rw [HSS.out.1]; omega)]; exact h1, h2, (h3.alloc _).grown (HO2.out.alloc _) (by decide) hg3⟩
      case measure => simp [intOf]; omega
    · obtain rfl : k = l.length := by omega
      have HO := Lib.hid hown
      have HSS := Lib.hid hss
      have HB := Lib.hid hbw
      clear hown hss hbw
      go_wp2_with fail
      go_ret
      exact ⟨⟨_, vs, rfl, HO.out, HSS.out⟩, HB.out⟩

set_option maxRecDepth 100000 in
set_option maxHeartbeats 2000000 in
theorem ivFloor (pv xv uv : Value) (p x : List Int) (n : Nat) (q : Int) (w : World) (hS : Std w) (hp : IsRow w w.heap.size pv p) (hx : IsRow w w.heap.size xv x) (hu : IsRow w w.heap.size uv (uni n)) (hcx : chkAll p [x] = 0) (hpe : primeErr p = 0) (h : FlOk p x n q) :
    Calls Tryz.prog 136 #[pv, xv, uv] w fun e w' => e = .returned (.tuple #[.int .i64 q, .int .i64 0]) ∧ Below w.heap.size w w' := by
  have hcu : chkAll p [uni n] = 0 := by
    unfold chkAll
    rw [if_neg (by simpa using hpe)]
    unfold rowsErr rowErr rowsErr
    rw [uni_len, h.plen]
    have hf : (uni n).any farB = false := by
      rw [List.any_eq_false]
      intro z hz
      unfold uni at hz
      rcases List.mem_cons.1 hz with rfl | hz
      · decide
      · rw [(List.mem_replicate.1 hz).2]; decide
    simp [hf]
  have hba : Below w.heap.size w (w.alloc (.cells #[xv, uv] 31)) := (Below.refl _ _).alloc (Nat.le_refl _) _
  have hl : RowsAt (w.alloc (.cells #[xv, uv] 31)) (w.alloc (.cells #[xv, uv] 31)).heap.size (some ⟨w.heap.size, 0, Option.none⟩) [x, uni n] := by
    have h := rowsAt_two w xv uv x (uni n) 31 hx hu
    rw [World.size_alloc]
    exact h
  have HSZ := Lib.hid (ivSizes pv p (some ⟨w.heap.size, 0, Option.none⟩) 2 [x, uni n] _ (hS.below hba (Nat.le_refl _)) (hp.lift hba) hl (fun y hy => by
    rcases List.mem_cons.1 hy with rfl | hy
    · exact hcx
    · rw [List.mem_singleton.1 hy]; exact hcu) (by simp))
  rw [List.length_cons, List.length_cons, List.length_nil] at HSZ
  have HFF := Lib.hid (fun W av bv hb ha hb' => szFloorF pv av bv p x n q W (hS.below (w := w) (B := w.heap.size) hb (Nat.le_refl _)) (hp.lift hb) ha hb' hpe h)
  have HSM := Lib.hid (fun W => whSmall_any q W h.qb.1 h.qb.2)
  have HBA := Lib.hid hba
  have hxl : x.length ≤ 1000 := by have := h.len; have := h.le; omega
  have hul : (uni n).length ≤ 1000 := by rw [uni_len]; have := h.le; omega
  obtain ⟨AP, cp, rfl⟩ := hp.shape
  obtain ⟨AX, cx, rfl⟩ := hx.shape
  obtain ⟨AU, cu, rfl⟩ := hu.shape
  clear hS hp hx hu hcx hpe h hcu hl hba
  generalize itoa q = ql at *
  go_enter Tryz.func136, Tryz.ntmps136
  go_wp2_with fail
  refine HSZ.out.mono ?_
  rintro e w1 ⟨⟨v, vs, rfl, hown, hss⟩, hb1⟩
  obtain ⟨g, cap, rfl⟩ := ownsRow_succ hown
  obtain ⟨v1, y1, k1, k2, k3⟩ := hss.2 0 (by omega)
  obtain ⟨v2, y2, k4, k5, k6⟩ := hss.2 1 (by omega)
  cases k2
  cases k5
  have hB1 := HBA.out.trans (hb1.mono HBA.out.size)
  have hc0 := (hown.cellAt 0 (by omega)).trans k1
  have hc1 := (hown.cellAt 1 (by omega)).trans k4
  have hz1 := k3.isSize hxl
  have hz2 := k6.isSize hul
  obtain ⟨g1, rfl, _, _⟩ := k3
  obtain ⟨g2, rfl, _, _⟩ := k6
  have HZ1 := Lib.hid hz1
  have HZ2 := Lib.hid hz2
  have HB1 := Lib.hid hB1
  clear hown hss hb1 k1 k4 hz1 hz2 hB1
  go_wp2_with fail
  refine region_E (T := (fun w' => w'.cell? ⟨g, 0, Option.none⟩ = some (.slice (some ⟨g1, 0, Option.none⟩) x.length x.length) ∧ w'.cell? ⟨g, 1, Option.none⟩ = some (.slice (some ⟨g2, 0, Option.none⟩) (uni n).length (uni n).length))) (D := []) (S := (fun _ => True)) (E := []) (by kernel_rfl) ?_ (fun hHeld => ?_)
  · exact ⟨⟨hc0, hc1⟩, trivial⟩
  refine anyE_easyD (i := 0) (d := some 19) (oi := _) (v := ?ev15) rfl rfl (by kernel_rfl) (by kernel_rfl) (by kernel_rfl) (fun _ _ _ h => h) (Or.inl ⟨by rfl, ?eh15⟩) ?er15
  case eh15 => (intro w hSw; (try dsimp only at hSw); go_simp; try (with_reducible rfl))
  try simp only [Act.put, List.setIfInBounds_toArray, List.set_cons_zero, List.set_cons_succ]
  refine anyE_easyD (i := 1) (d := some 20) (oi := _) (v := ?ev16) rfl rfl (by kernel_rfl) (by kernel_rfl) (by kernel_rfl) (fun _ _ _ h => h) (Or.inl ⟨by rfl, ?eh16⟩) ?er16
  case eh16 => (intro w hSw; (try dsimp only at hSw); go_simp; try (with_reducible rfl))
  try simp only [Act.put, List.setIfInBounds_toArray, List.set_cons_zero, List.set_cons_succ]
  refine anyE_easyD (i := 2) (d := some 21) (oi := _) (v := ?ev17) rfl rfl (by kernel_rfl) (by kernel_rfl) (by kernel_rfl) (fun _ _ _ h => h) (Or.inl ⟨by rfl, ?eh17⟩) ?er17
  case eh17 => (intro w hSw; (try dsimp only at hSw); go_simp; try (with_reducible rfl))
  try simp only [Act.put, List.setIfInBounds_toArray, List.set_cons_zero, List.set_cons_succ]
  refine anyE_heldD (i := 3) (d := some 22) (oi := _) (v := ?ev18) rfl rfl (by kernel_rfl) (by kernel_rfl) (by kernel_rfl) (by kernel_rfl) (fun _ _ _ h => h) (Or.inl ⟨by rfl, ?eh18⟩) (by first | exact hHeld | exact And.left hHeld) ?er18
  case eh18 => (intro w hSw; (try dsimp only at hSw); go_simp; try (with_reducible rfl))
  try simp only [Act.put, List.setIfInBounds_toArray, List.set_cons_zero, List.set_cons_succ]
  refine anyE_easyD (i := 4) (d := some 23) (oi := _) (v := ?ev19) rfl rfl (by kernel_rfl) (by kernel_rfl) (by kernel_rfl) (fun _ _ _ h => h) (Or.inl ⟨by rfl, ?eh19⟩) ?er19
  case eh19 => (intro w hSw; (try dsimp only at hSw); go_simp; try (with_reducible rfl))
  try simp only [Act.put, List.setIfInBounds_toArray, List.set_cons_zero, List.set_cons_succ]
  refine anyE_easyD (i := 5) (d := some 24) (oi := _) (v := ?ev20) rfl rfl (by kernel_rfl) (by kernel_rfl) (by kernel_rfl) (fun _ _ _ h => h) (Or.inl ⟨by rfl, ?eh20⟩) ?er20
  case eh20 => (intro w hSw; (try dsimp only at hSw); go_simp; try (with_reducible rfl))
  try simp only [Act.put, List.setIfInBounds_toArray, List.set_cons_zero, List.set_cons_succ]
  refine anyE_heldD (i := 6) (d := some 25) (oi := _) (v := ?ev21) rfl rfl (by kernel_rfl) (by kernel_rfl) (by kernel_rfl) (by kernel_rfl) (fun _ _ _ h => h) (Or.inl ⟨by rfl, ?eh21⟩) (by first | exact hHeld | exact And.left hHeld) ?er21
  case eh21 => (intro w hSw; (try dsimp only at hSw); go_simp; try (with_reducible rfl))
  try simp only [Act.put, List.setIfInBounds_toArray, List.set_cons_zero, List.set_cons_succ]
  refine anyE_oneD (i := 7) (o := _) (d := some 26) (by kernel_rfl) rfl rfl (fun K hK => ?_)
  go_simp
  have hbd : Below w1.heap.size w1 w1.drew := below_drew (Below.refl _ _)
  refine (HFF.out _ _ _ (HB1.out.trans (hbd.mono HB1.out.size)) (HZ1.out.lift hbd) (HZ2.out.lift hbd)).mono ?_
  rintro e w2 ⟨rfl, hb2⟩
  have HB2 := Lib.hid ((HB1.out.trans (hbd.mono HB1.out.size)).trans (hb2.mono (HB1.out.trans (hbd.mono HB1.out.size)).size))
  have u0 := (hb2.cell (p := ⟨g, 0, Option.none⟩) (cell_lt hHeld.1.1)).trans hHeld.1.1
  have u1 := (hb2.cell (p := ⟨g, 1, Option.none⟩) (cell_lt hHeld.1.2)).trans hHeld.1.2
  clear hb2 hbd
  refine hK.out _ _ ?_ (fun hHeld => ?_)
  · exact ⟨⟨u0, u1⟩, trivial⟩
  refine anyE_easyD (i := 8) (d := some 18) (oi := _) (v := ?ev23) rfl rfl (by kernel_rfl) (by kernel_rfl) (by kernel_rfl) (fun _ _ _ h => h) (Or.inl ⟨by rfl, ?eh23⟩) ?er23
  case eh23 => (intro w hSw; (try dsimp only at hSw); go_simp; try (with_reducible rfl))
  try simp only [Act.put, List.setIfInBounds_toArray, List.set_cons_zero, List.set_cons_succ]
  refine anyE_easyD (i := 9) (d := some 27) (oi := _) (v := ?ev24) rfl rfl (by kernel_rfl) (by kernel_rfl) (by kernel_rfl) (fun _ _ _ h => h) (Or.inl ⟨by rfl, ?eh24⟩) ?er24
  case eh24 => (intro w hSw; (try dsimp only at hSw); go_simp; try (with_reducible rfl))
  try simp only [Act.put, List.setIfInBounds_toArray, List.set_cons_zero, List.set_cons_succ]
  refine anyE_easyD (i := 10) (d := some 28) (oi := _) (v := ?ev25) rfl rfl (by kernel_rfl) (by kernel_rfl) (by kernel_rfl) (fun _ _ _ h => h) (Or.inl ⟨by rfl, ?eh25⟩) ?er25
  case eh25 => (intro w hSw; (try dsimp only at hSw); go_simp; try (with_reducible rfl))
  try simp only [Act.put, List.setIfInBounds_toArray, List.set_cons_zero, List.set_cons_succ]
  refine anyE_easyD (i := 11) (d := some 9) (oi := _) (v := ?ev26) rfl rfl (by kernel_rfl) (by kernel_rfl) (by kernel_rfl) (fun _ _ _ h => h) (Or.inl ⟨by rfl, ?eh26⟩) ?er26
  case eh26 => (intro w hSw; (try dsimp only at hSw); go_simp; try (with_reducible rfl))
  try simp only [Act.put, List.setIfInBounds_toArray, List.set_cons_zero, List.set_cons_succ]
  refine anyE_easyD (i := 12) (d := some 10) (oi := _) (v := ?ev27) rfl rfl (by kernel_rfl) (by kernel_rfl) (by kernel_rfl) (fun _ _ _ h => h) (Or.inl ⟨by rfl, ?eh27⟩) ?er27
  case eh27 => (intro w hSw; (try dsimp only at hSw); go_simp; try (with_reducible rfl))
  try simp only [Act.put, List.setIfInBounds_toArray, List.set_cons_zero, List.set_cons_succ]
  refine anyE_done (by kernel_rfl) ?_ _
  go_wp2_with fail
  refine (HSM.out _).mono ?_
  rintro e w3 ⟨rfl, hb3⟩
  have HB3 := Lib.hid (HB2.out.trans (hb3.mono HB2.out.size))
  clear hb3
  go_wp2_with fail
  go_ret2
  exact ⟨rfl, HB3.out⟩

end Go.Proofs.YteenfcmnmenigaaGreatDoor

namespace Go.Proofs.YteenfcmnmenigaaGreatDoor
open Go.RowKit Go.Lib

set_option maxRecDepth 100000 in
set_option maxHeartbeats 1000000 in
theorem clone_own (v : Value) (x : List Int) (w : World) (h : IsRow w w.heap.size v x) (hx : x.length ≤ 1000) (h0 : 0 < x.length) :
    Calls Tryz.prog 69 #[v] w fun e w' => (∃ g c, e = .returned (.slice (some ⟨g, 0, Option.none⟩) x.length c) ∧ w'.ownsRow w.heap.size 3 1 (.slice (some ⟨g, 0, Option.none⟩) x.length c) x.length (is x)) ∧ Below w.heap.size w w' := by
  obtain ⟨i0, hi0, hz0, hz1, hz2⟩ := info_parts Tryz.info_int
  obtain ⟨A, c, rfl, h1, h2, hr⟩ := h
  have hE := fun W => Lib.run_eql_slice_nil (P := Tryz.prog) W 31 3 A x.length c 0 0 Tryz.underlying31
  cases A with
  | none =>
    obtain ⟨ad, hn, _⟩ := hr.2 0 (.int .i64 (x[0]?.getD 0)) (by unfold is; rw [List.getElem?_map, List.getElem?_eq_getElem h0]; rfl)
    cases hn
  | some ad =>
    have hcells : ∀ (j : Nat) u, (is x)[j]? = some u → (w.alloc (.cells #[] 3)).cell? (ad.add j) = some u := fun j u hu => by
      obtain ⟨ad', e, hb, hc⟩ := hr.2 j u hu
      injection e with e
      subst e
      exact keep_cell hc ((Below.refl w.heap.size w).alloc (Nat.le_refl _) _)
    have hown : (w.alloc (.cells #[] 3)).ownsRow w.heap.size 3 1 (.slice (some ⟨w.heap.size, 0, Option.none⟩) 0 0) 0 [] := Cells.own (k := 0) (Cells.new w 3 #[]) (Nat.le_refl _) rfl (Nat.zero_le _) (Nat.le_refl _)
    have HO := Lib.hid hown
    have HC := Lib.hid hcells
    have H0 : Box (0 < x.length) := ⟨h0⟩
    clear hown hcells hr h0
    go_enter Tryz.func69, Tryz.ntmps69
    go_wp2_with (at_builtin; refine wpList_append_own _ rfl _ _ _ rfl w.heap.size 3 i0 (.int .i64 0) 1 8 Tryz.underlying31 hi0 hz0 hz1 hz2 rfl (by decide) _ _ _ rfl HO.out ad x.length c (is x) rfl (by simp [is]) HC.out (by intro u hu; unfold is at hu; obtain ⟨z, _, rfl⟩ := List.mem_map.1 hu; rfl) (by unfold maxLen; omega) (by omega) (by simp) ?_; intro v3 w3 hown3 hg3 _)
    rw [List.nil_append, Nat.zero_add] at hown3
    have hbw : Below w.heap.size w w3 := ((Below.refl w.heap.size w).alloc (Nat.le_refl _) (.cells #[] 3)).grown hg3 (by simp) (fun k hk => (HO.out.lt k hk).1)
    have hsh : ∃ g c, v3 = .slice (some ⟨g, 0, Option.none⟩) x.length c := by
      rcases hown3.2 with ⟨_, h⟩ | ⟨g, cap, cur, hv, _⟩
      · have := H0.out; omega
      · exact ⟨g, cap, hv⟩
    obtain ⟨g, c3, rfl⟩ := hsh
    go_wp2_with fail
    go_ret
    exact ⟨⟨_, _, rfl, hown3⟩, hbw⟩

/-- An interval with a number of equaves more. -/
def addE (x : List Int) (n : Int) : List Int := x.set 0 (x[0]?.getD 0 + n)
theorem addE_len (x : List Int) (n : Int) : (addE x n).length = x.length := by simp [addE]
theorem is_set (x : List Int) (k : Nat) (z : Int) : (is x).set k (.int .i64 z) = is (x.set k z) := by unfold is; rw [List.map_set]

set_option maxRecDepth 100000 in
set_option maxHeartbeats 1000000 in
theorem ivEquaves (pv xv : Value) (p x : List Int) (n : Int) (w : World) (hp : IsRow w w.heap.size pv p) (hx : IsRow w w.heap.size xv x) (hl : x.length ≤ 1000) (h0 : 0 < x.length) (hb : (x[0]?.getD 0).natAbs ≤ 1000000) (hn : n.natAbs ≤ 1000000000) (hc : chkAll p [addE x n] = 0) :
    Calls Tryz.prog 138 #[pv, xv, .int .i64 n] w fun e w' => (∃ g c, e = .returned (.tuple #[.slice (some ⟨g, 0, Option.none⟩) x.length c, .int .i64 0]) ∧ ORow w' (.slice (some ⟨g, 0, Option.none⟩) x.length c) (addE x n)) ∧ Below w.heap.size w w' := by
  have HCL := Lib.hid (clone_own xv x w hx hl h0)
  have HP := Lib.hid hp
  obtain ⟨AP, cp, rfl⟩ := hp.shape
  obtain ⟨AX, cx, rfl⟩ := hx.shape
  have hw1 : IntKind.i64.wrap (x[0]?.getD 0 + n) = x[0]?.getD 0 + n := IntWalk.i64_in _ (by omega)
  have HCH := Lib.hid hc
  have h0i : (0 : Int) < (x.length : Int) := by omega
  clear hp hx hc
  have HE : Hid (addE x n = x.set 0 (x[0]?.getD 0 + n)) := Lib.hid rfl
  have HX0 := Lib.hid (show (is x)[0]? = some (.int .i64 (x[0]?.getD 0)) by unfold is; rw [List.getElem?_map, List.getElem?_eq_getElem h0]; rfl)
  generalize x[0]?.getD 0 = x0 at *
  go_enter Tryz.func138, Tryz.ntmps138
  go_wp2_with fail
  refine HCL.out.mono ?_
  rintro e w1 ⟨⟨g, c, rfl, hown⟩, hb1⟩
  have q0 := (hown.cellAt 0 (by omega)).trans HX0.out
  have f0 := hown.frozenAt 0
  have hst := (hown.stored 0 (.int .i64 (x0 + n)))
  have hgb := (hown.lt g rfl).1
  have HB1 := Lib.hid (hb1.setCell (p := ⟨g, 0, Option.none⟩) hgb (.int .i64 (x0 + n)))
  clear hb1
  go_wp2_with fail
  have hrow : ORow (w1.setCell ⟨g, 0, Option.none⟩ (.int .i64 (x0 + n))) (.slice (some ⟨g, 0, Option.none⟩) x.length c) (addE x n) := by
    have h := hst.1
    rw [is_set, ← HE.out] at h
    exact ORow.of_own (by rw [addE_len]; exact h)
  have HR := Lib.hid hrow
  have HCK := Lib.hid (check_any _ _ p (addE x n) _ (HP.out.lift HB1.out) hrow.row)
  rw [HCH.out] at HCK
  clear hrow hst hown
  refine HCK.out.mono ?_
  rintro e w2 ⟨rfl, hb2⟩
  have HR2 := Lib.hid (HR.out.below hb2)
  have HB2 := Lib.hid (HB1.out.trans (hb2.mono HB1.out.size))
  clear hb2
  go_wp2_with fail
  go_ret2
  exact ⟨⟨g, c, rfl, HR2.out⟩, HB2.out⟩

/-- What Reduce needs: right rows, the floor decided, the result right. -/
structure RedOk (p x : List Int) (n : Nat) (q : Int) : Prop where
  fl : FlOk p x n q
  pe : primeErr p = 0
  cx : chkAll p [x] = 0
  cr : chkAll p [addE x (-q)] = 0
  qs : q.natAbs ≤ 1000000

set_option maxRecDepth 100000 in
set_option maxHeartbeats 2000000 in
theorem ivReduce (pv xv : Value) (p x : List Int) (n : Nat) (q : Int) (w : World) (hS : Std w) (hp : IsRow w w.heap.size pv p) (hx : IsRow w w.heap.size xv x) (h : RedOk p x n q) :
    Calls Tryz.prog 89 #[pv, xv] w fun e w' => (∃ v, e = .returned (.tuple #[v, .int .i64 q, .int .i64 0]) ∧ ORow w' v (addE x (-q))) ∧ Below w.heap.size w w' := by
  have hlen := h.fl.len
  have hle := h.fl.le
  have hba : Below w.heap.size w (w.alloc (.cells #[xv] 31)) := (Below.refl _ _).alloc (Nat.le_refl _) _
  have HO := Lib.hid (open_one pv xv w.heap.size p x _ (hp.lift hba) (Cells.new w 31 #[xv]) (hx.lift hba))
  rw [h.cx] at HO
  have HU := Lib.hid (fun W (hb : Below w.heap.size w W) => ivUnit pv p n W (hp.lift hb) h.fl.plen (by omega))
  have HF := Lib.hid (fun W uv (hb : Below w.heap.size w W) hu => ivFloor pv xv uv p x n q W (hS.below hb (Nat.le_refl _)) (hp.lift hb) (hx.lift hb) hu h.cx h.pe h.fl)
  have hx0 : (x[0]?.getD 0).natAbs ≤ 1000000 := by
    rw [List.getElem?_eq_getElem (by omega)]
    exact h.fl.small _ (List.getElem_mem _)
  have HE := Lib.hid (fun W (hb : Below w.heap.size w W) => ivEquaves pv xv p x (-q) W (hp.lift hb) (hx.lift hb) (by omega) (by omega) hx0 (by have := h.qs; omega) h.cr)
  have HBA := Lib.hid hba
  have hqs := h.qs
  have hwq : IntKind.i64.wrap (-q) = -q := IntWalk.i64_in _ (by omega)
  obtain ⟨AP, cp, rfl⟩ := hp.shape
  obtain ⟨AX, cx, rfl⟩ := hx.shape
  clear hS hp hx h hba hx0 hlen hle
  go_enter Tryz.func89, Tryz.ntmps89
  go_wp2_with fail
  refine HO.out.mono ?_
  rintro e w1 ⟨rfl, hb1⟩
  have HB1 := Lib.hid (HBA.out.trans (hb1.mono HBA.out.size))
  clear hb1
  go_wp2_with fail
  refine (HU.out _ HB1.out).mono ?_
  rintro e w2 ⟨⟨uv, rfl, hu⟩, hb2⟩
  have HB2 := Lib.hid (HB1.out.trans (hb2.mono HB1.out.size))
  have HFF := Lib.hid (HF.out _ _ HB2.out hu)
  obtain ⟨AU, cu, rfl⟩ := hu.shape
  clear hb2 hu
  go_wp2_with fail
  refine HFF.out.mono ?_
  rintro e w3 ⟨rfl, hb3⟩
  have HB3 := Lib.hid (HB2.out.trans (hb3.mono HB2.out.size))
  clear hb3
  go_wp2_with fail
  refine (HE.out _ HB3.out).mono ?_
  rintro e w4 ⟨⟨g, c, rfl, hr⟩, hb4⟩
  have HR := Lib.hid hr
  have HB4 := Lib.hid (HB3.out.trans (hb4.mono HB3.out.size))
  clear hb4 hr
  go_wp2_with fail
  refine bodyPost_ret (v := .tuple #[.slice (some ⟨g, 0, Option.none⟩) x.length c, .int .i64 q, .int .i64 0]) (by simp [results, Tryz.results89, go_sem]) rfl ⟨⟨_, rfl, HR.out⟩, HB4.out⟩

end Go.Proofs.YteenfcmnmenigaaGreatDoor

namespace Go.Proofs.YteenfcmnmenigaaGreatDoor
open Go.RowKit Go.Lib Go.Shelf

/-- All elements are 0. -/
def zeroB (x : List Int) : Bool := !(x.any fun v => !(v == 0))
/-- A pair of elements. -/
abbrev Prw := { x : Int × Int // x.1.natAbs ≤ 1000000000 ∧ x.2.natAbs ≤ 1000000000 }
def prwEnc (x : Prw) : Array Value := #[.int .i64 x.1.1, .int .i64 x.1.2]
def prw1 (l : List Prw) : List Int := l.map fun x => x.1.1
def prw2 (l : List Prw) : List Int := l.map fun x => x.1.2

end Go.Proofs.YteenfcmnmenigaaGreatDoor

namespace Go.Proofs.YteenfcmnmenigaaGreatDoor
open Go.RowKit Go.Lib Go.Shelf
attribute [local go_sem] Oper.semAt_some

def prwD (l : List Prw) : List Int := l.map fun x => x.1.1 - x.1.2
theorem prwD_snoc (l : List Prw) (x : Prw) : prwD (l ++ [x]) = prwD l ++ [x.1.1 - x.1.2] := by simp [prwD]
theorem prwD_len (l : List Prw) : (prwD l).length = l.length := by simp [prwD]

/-- The difference of rows. -/
def subR (x y : List Int) : List Int := (x.zip y).map fun z => z.1 - z.2
theorem subR_len {x y : List Int} (h : x.length = y.length) : (subR x y).length = x.length := by unfold subR; rw [List.length_map, List.length_zip]; omega

theorem chk_bd {x : List Int} (h : rowChk x = 0) : x.length ≤ 64 ∧ ∀ z ∈ x, z.natAbs ≤ 1000000000 := by
  unfold rowChk at h
  split at h
  · cases h
  · rename_i hn
    rw [not_or] at hn
    refine ⟨by omega, fun z hz => ?_⟩
    have h2 := hn.2
    rw [Bool.not_eq_true, List.any_eq_false] at h2
    have h3 := h2 z hz
    unfold fitsB at h3
    simp at h3
    omega

end Go.Proofs.YteenfcmnmenigaaGreatDoor
