/- prime.divide. prime.factor of right short fractions. fraction.New, Of; prime.Factor, Smooth; target.number. interval.sizes, interval.floor. interval.equaves, Reduce, Inverse. row.IsZero, row.both, row.result, the iterator row.pairs. row.Sub. -/
import Derived.Test.YtcfkclafpbaagaaGreatDoorGE
import Derived.Test.YtcfkclafpbaagaaGreatDoorGTE
import Derived.Test.YtcfkclafpbaagaaGreatDoorGTB
import Derived.Test.YtcfkclafpbaagaaGreatDoorGTD
import Derived.Maps.AppendAt
namespace Go.Proofs.YtcfkclafpbaagaaGreatDoor
open Go.RowKit Go.Lib

set_option maxHeartbeats 1000000 in
theorem divide_any (x p : Nat) (w : World) (hS : Std w) (hx : (decDigits x).length ≤ 18) (hx0 : 0 < x) (hp2 : 2 ≤ p) (hp : p ≤ 97) :
    Calls Tryz.prog 91 #[.string ⟨(decDigits x).toArray⟩, .int .i64 p] w fun e w' => e = .returned (.tuple #[.string ⟨(decDigits (left p x)).toArray⟩, .int .i64 (mult p x : Nat)]) ∧ Below w.heap.size w w' := by
  have HX : Box ((decDigits x).length ≤ 18 ∧ 0 < x) := ⟨hx, hx0⟩
  have HS := Lib.hid hS
  have hm60 := mult_le p x (len18 hx)
  have hpl : (decDigits p).length ≤ 18 := by
    rw [dec_length]
    have := nDigits_le (u := p) (k := 2) (by omega) (by omega)
    omega
  have HPL : Box ((decDigits p).length ≤ 18) := ⟨hpl⟩
  have HO := Lib.hid (fun W (hW : Std W) => whOf_any (p : Int) W (by omega) (by omega) hW)
  rw [itoa_nat] at HO
  clear hS hx hx0 hpl
  go_enter Tryz.func91, Tryz.ntmps91
  go_wp2_with fail
  refine (HO.out _ HS.out).mono ?_
  rintro e w1 ⟨rfl, hb0⟩
  have HB0 := Lib.hid hb0
  clear hb0
  go_wp2_with fail
  go_loopw [0, 7] (fun a t wr => ∃ y k : Nat, a = .string ⟨(decDigits y).toArray⟩ ∧ t = .int .i64 k ∧ k ≤ 60 ∧ Box (0 < y ∧ y ≤ x) ∧ Box (mult p x = mult p y + k) ∧ Box (left p x = left p y) ∧ Below w.heap.size w wr) (fun _ t _ => 61 - (intOf t).toNat)
  case atStart => exact ⟨x, 0, rfl, rfl, by omega, ⟨HX.out.2, Nat.le_refl _⟩, ⟨rfl⟩, ⟨rfl⟩, HB0.out⟩
  case round =>
    obtain ⟨y, k, rfl, rfl, hk, HY, HM, HL, hbw⟩ := hrel
    have hsr := HS.out.below hbw (Nat.le_refl _)
    have HSR := Lib.hid hsr
    have HD := Lib.hid (fun W (hW : Std W) => whDivMod_small y p W hW (dec18 HY.out.2 HX.out.1) HPL.out (by omega))
    have hz := dec_eq_zero (y % p)
    clear hsr
    by_cases hdv : y % p = 0
    · rw [decide_eq_true hdv] at hz
      have hz2 : (decDigits (y % p) != [48]) = false := by simp only [bne, hz]; rfl
      have hyes : 2 ≤ p ∧ 0 < y ∧ y % p = 0 := ⟨hp2, HY.out.1, hdv⟩
      have h1 := HM.out
      rw [mult_yes hyes] at h1
      have h2 := HL.out
      rw [left_yes hyes] at h2
      have hkl : k < 60 := by omega
      have HM2 : Box (mult p x = mult p (y / p) + (k + 1)) := ⟨by omega⟩
      have HL2 : Box (left p x = left p (y / p)) := ⟨h2⟩
      have HY2 : Box (0 < y / p ∧ y / p ≤ x) := ⟨by
        have hm := Nat.div_add_mod y p
        have h3 := HY.out
        refine ⟨?_, Nat.le_trans (Nat.div_le_self _ _) h3.2⟩
        rcases Nat.eq_zero_or_pos (y / p) with h0 | h0
        · rw [h0, hdv] at hm; omega
        · exact h0⟩
      clear h1 h2 hyes hdv
      generalize decDigits (y % p) = lr at *
      go_wp2_with fail
      refine (HD.out _ HSR.out).mono ?_
      rintro e w2 ⟨rfl, hb2⟩
      go_wp2_with fail
      go_roundw
      case rel =>
        exact ⟨y / p, k + 1, rfl, by go_num, by omega, HY2, HM2, HL2, hbw.trans (hb2.mono hbw.size)⟩
      case measure => simp [intOf]; omega
    · rw [decide_eq_false hdv] at hz
      have hz2 : (decDigits (y % p) != [48]) = true := by simp only [bne, hz]; rfl
      have hno : ¬ (2 ≤ p ∧ 0 < y ∧ y % p = 0) := fun h => hdv h.2.2
      have HM2 : Box (mult p x = k) := ⟨by rw [HM.out, mult_no hno]; omega⟩
      have HL2 : Box (left p x = y) := ⟨by rw [HL.out, left_no hno]⟩
      clear hno hdv
      generalize decDigits (y % p) = lr at *
      go_wp2_with fail
      refine (HD.out _ HSR.out).mono ?_
      rintro e w2 ⟨rfl, hb2⟩
      go_wp2_with fail
      go_ret2
      exact ⟨ret2 (by rw [HL2.out]; rfl) (by rw [HM2.out]; rfl), hbw.trans (hb2.mono hbw.size)⟩

end Go.Proofs.YtcfkclafpbaagaaGreatDoor

namespace Go.Proofs.YtcfkclafpbaagaaGreatDoor
open Go.RowKit Go.Lib

/-- Whether a fraction is one over the list. -/
def smB (p : List Int) (n d : Nat) : Bool := decide (leftTo p n p.length = 1) && decide (leftTo p d p.length = 1)
def expsZ (p : List Int) (n d k : Nat) : List Int := expsTo p n d k ++ List.replicate (p.length - k) 0
theorem expsZ_len (p : List Int) (n d : Nat) {k : Nat} (hk : k ≤ p.length) : (expsZ p n d k).length = p.length := by unfold expsZ; rw [List.length_append, expsTo_len, List.length_replicate]; omega
theorem expsZ_set (p : List Int) (n d : Nat) {k : Nat} (hk : k < p.length) : (expsZ p n d k).set k ((mult (p[k]?.getD 0).toNat (leftTo p n k) : Int) - (mult (p[k]?.getD 0).toNat (leftTo p d k) : Int)) = expsZ p n d (k + 1) := by
  unfold expsZ
  rw [expsTo, List.set_append_right _ _ (by rw [expsTo_len]; exact Nat.le_refl _), expsTo_len, Nat.sub_self, show p.length - k = (p.length - (k + 1)) + 1 by omega, List.replicate_succ, List.set_cons_zero, List.append_assoc]
  rfl

theorem is_set2 (x : List Int) (k : Nat) (z : Int) : (is x).set k (.int .i64 z) = is (x.set k z) := by unfold is; rw [List.map_set]

set_option maxRecDepth 100000 in
set_option maxHeartbeats 2000000 in
theorem factor_any (pv : Value) (p : List Int) (n d : Nat) (w : World) (hS : Std w) (hpv : IsRow w w.heap.size pv p) (hp : primeErr p = 0) (hn : (decDigits n).length ≤ 18) (hd : (decDigits d).length ≤ 18) (hn0 : 0 < n) (hd0 : 0 < d) :
    Calls Tryz.prog 61 #[pv, .agg #[.string ⟨(decDigits n).toArray⟩, .string ⟨(decDigits d).toArray⟩]] w fun e w' => (∃ v, e = .returned (.tuple #[v, .bool (smB p n d)]) ∧ ORow w' v (expsTo p n d p.length)) ∧ Below w.heap.size w w' := by
  obtain ⟨i0, hi0, hz0, hz1, hz2⟩ := info_parts Tryz.info_int
  obtain ⟨hp6, hp1, hpr⟩ := right_primes hp
  have hsg : sgn (n : Int) = 1 := by unfold sgn; rw [if_neg (by omega), if_neg (by omega)]
  have hln : (itoa (n : Int)).length ≤ 100000 := by rw [itoa_nat]; omega
  have HSG := Lib.hid (fun W => fracSign_any (n : Int) (decDigits d) W hln)
  rw [hsg, itoa_nat] at HSG
  have HN : Box ((decDigits n).length ≤ 18 ∧ 0 < n) := ⟨hn, hn0⟩
  have HD : Box ((decDigits d).length ≤ 18 ∧ 0 < d) := ⟨hd, hd0⟩
  have HS := Lib.hid hS
  have HPV := Lib.hid hpv
  have HPR : Box (∀ k, k < p.length → 2 ≤ p[k]?.getD 0 ∧ p[k]?.getD 0 ≤ 97) := ⟨hpr⟩
  obtain ⟨AP, cp, rfl, _⟩ := hpv
  have HSM : Hid (smB p n d = (decide (leftTo p n p.length = 1) && decide (leftTo p d p.length = 1))) := Lib.hid rfl
  clear hsg hln hn hd hn0 hd0 hS hp hpr
  generalize hla : decDigits n = la at *
  generalize hlb : decDigits d = lb at *
  have HLA : Box (decDigits n = la) := ⟨hla⟩
  have HLB : Box (decDigits d = lb) := ⟨hlb⟩
  clear hla hlb
  go_enter Tryz.func61, Tryz.ntmps61
  go_wp2_with fail
  refine (HSG.out _).mono ?_
  rintro e w1 ⟨rfl, hb1⟩
  have hb1' : Below (w.heap.size + 1) (w.alloc (.cells #[.string ⟨la.toArray⟩, .string ⟨lb.toArray⟩] 53)) w1 := by rw [World.size_alloc] at hb1; exact hb1
  have hw1 : w.heap.size + 1 ≤ w1.heap.size := by have := hb1.size; rw [World.size_alloc] at this; exact this
  go_wp2_with (at_make; refine wpList_make_full _ rfl _ _ _ rfl w1.heap.size 3 i0 _ 1 Tryz.underlying28 hi0 hz0 hz1 .i64 .i64 _ _ p.length rfl rfl (by omega) (by omega) (by rw [hz2]; omega) (by unfold maxLen; omega) (Nat.le_refl _) ?_; intro w2 hown hg2; have hb2 : Below w1.heap.size w1 w2 := (Below.refl _ _).grown hg2 (Nat.le_refl _) (by simp))
  have hc2 : Cells w2 w1.heap.size 3 (is (List.replicate p.length 0)) := (Cells.of_full (by rw [← made_int]; exact hown))
  have hbw2 := hb1'.trans (hb2.mono hw1)
  obtain ⟨q0, q1⟩ := rat_cells hbw2
  go_wp2_with fail
  go_quiet (fail)
  have hc3 := hc2.drewN nq
  have hbw3 := below_drewN (below_result hbw2) nq
  clear hc2 hbw2 q0 q1 hown hg2 hb2 hb1 hb1'
  have hgw : w.heap.size < w1.heap.size := by omega
  generalize w1.heap.size = g at *
  have HC3 := Lib.hid hc3
  have HB3 := Lib.hid hbw3
  clear hc3 hbw3
  go_wp2_with fail
  go_loopw [7, 8, 25] (fun a b i wr => ∃ k : Nat, k ≤ p.length ∧ i = .int .i64 k ∧ a = .string ⟨(decDigits (leftTo p n k)).toArray⟩ ∧ b = .string ⟨(decDigits (leftTo p d k)).toArray⟩ ∧ Cells wr g 3 (is (expsZ p n d k)) ∧ Below w.heap.size w wr) (fun _ _ i _ => p.length - (intOf i).toNat)
  case atStart => exact ⟨0, Nat.zero_le _, rfl, by rw [leftTo, HLA.out], by rw [leftTo, HLB.out], by unfold expsZ expsTo; rw [Nat.sub_zero, List.nil_append]; exact HC3.out, HB3.out⟩
  case round =>
    clear HC3 HB3
    obtain ⟨k, hk, rfl, rfl, rfl, hcl, hbw⟩ := hrel
    by_cases hlt : k < p.length
    · obtain ⟨A', c', e', _, _, hr⟩ := HPV.out
      injection e' with e1 _ e3
      subst e1 e3
      obtain ⟨ad, rfl, _, hca⟩ := (hr.below hbw (Nat.le_refl _)).i_at hlt
      clear hr
      have hpk := HPR.out k hlt
      have hl1 := leftTo_le p n HN.out.2 k
      have hl2 := leftTo_le p d HD.out.2 k
      have e1 : leftTo p n (k + 1) = left (p[k]?.getD 0).toNat (leftTo p n k) := rfl
      have e2 : leftTo p d (k + 1) = left (p[k]?.getD 0).toNat (leftTo p d k) := rfl
      have e3 := expsZ_set p n d hlt
      have hex : ∃ u, (is (expsZ p n d k))[k]? = some u := ⟨_, List.getElem?_eq_getElem (by rw [is_length, expsZ_len p n d hk]; exact hlt)⟩
      obtain ⟨u0, hu0⟩ := hex
      generalize p[k]?.getD 0 = q0 at *
      obtain ⟨q, rfl⟩ : ∃ q : Nat, q0 = (q : Int) := ⟨q0.toNat, by omega⟩
      rw [Int.toNat_natCast] at e1 e2 e3
      have hdn : (decDigits (leftTo p n k)).length ≤ 18 := dec18 hl1.1 (by rw [HLA.out]; exact HN.out.1)
      have hdd : (decDigits (leftTo p d k)).length ≤ 18 := dec18 hl2.1 (by rw [HLB.out]; exact HD.out.1)
      have hm1 := mult_le q (leftTo p n k) (len18 hdn)
      have hm2 := mult_le q (leftTo p d k) (len18 hdd)
      have HE1 := Lib.hid (fun W hW => divide_any (leftTo p n k) q W hW hdn hl1.2 (by omega) (by omega))
      have HE2 := Lib.hid (fun W hW => divide_any (leftTo p d k) q W hW hdd hl2.2 (by omega) (by omega))
      have hsr := HS.out.below hbw (Nat.le_refl _)
      have HSR := Lib.hid hsr
      have E1 := Lib.hid e1
      have E2 := Lib.hid e2
      have E3 := Lib.hid e3
      have HU0 := Lib.hid hu0
      have HC := Lib.hid hcl
      have HB := Lib.hid hbw
      have hgl := hcl.lt
      clear e1 e2 e3 hl1 hl2 hdn hdd hsr hu0 hcl hbw
      generalize mult q (leftTo p n k) = m1 at *
      generalize mult q (leftTo p d k) = m2 at *
      go_wp2_with fail
      refine (HE1.out _ HSR.out).mono ?_
      rintro e w3 ⟨rfl, hb3⟩
      have HB4 := Lib.hid (HB.out.trans (hb3.mono HB.out.size))
      have HC4 := Lib.hid (HC.out.below hb3 HC.out.lt)
      clear hb3
      go_wp2_with fail
      refine (HE2.out _ (HS.out.below HB4.out (Nat.le_refl _))).mono ?_
      rintro e w5 ⟨rfl, hb5⟩
      have HB6 := Lib.hid (HB4.out.trans (hb5.mono HB4.out.size))
      have hc6 := HC4.out.below hb5 HC4.out.lt
      have HC6 := Lib.hid hc6
      have v0 := (hc6.cell k).trans HU0.out
      have f0 := hc6.free k
      clear hb5 hc6
      go_wp2_with fail
      go_roundw
      case rel =>
        refine ⟨k + 1, by omega, by go_num, by rw [E1.out], by rw [E2.out], ?_, HB6.out.setCell (by show w.heap.size ≤ g; omega) _⟩
        rw [← E3.out, ← is_set2]
        exact HC6.out.set k _
      case measure => simp [intOf]; omega
    · obtain rfl : k = p.length := by omega
      have h1 := dec_eq_one (leftTo p n p.length)
      have h2 := dec_eq_one (leftTo p d p.length)
      have hri : ORow wr (.slice (some ⟨g, 0, Option.none⟩) p.length p.length) (expsTo p n d p.length) := by
        have hcl2 := hcl
        unfold expsZ at hcl2
        rw [Nat.sub_self, List.replicate_zero, List.append_nil] at hcl2
        exact ORow.of_cells hcl2 (expsTo_len _ _ _ _) (by omega)
      have HR := Lib.hid hri
      have HB := Lib.hid hbw
      clear hri hcl hbw
      have hsm := HSM.out
      obtain ⟨b1, hb1⟩ : ∃ b, b = decide (leftTo p n p.length = 1) := ⟨_, rfl⟩
      obtain ⟨b2, hb2⟩ : ∃ b, b = decide (leftTo p d p.length = 1) := ⟨_, rfl⟩
      rw [← hb1] at h1 hsm
      rw [← hb2] at h2 hsm
      clear hb1 hb2
      cases b1 <;> cases b2
      all_goals
        simp at hsm
        have HSM2 := Lib.hid hsm
        clear hsm
        go_wp2_with fail
        go_ret2
        exact ⟨⟨_, by rw [HSM2.out]; rfl, HR.out⟩, HB.out⟩

theorem far1_any (v : Int) (w : World) : Calls Tryz.prog 139 #[.int .i64 v] w fun e w' => e = .returned (.bool (farB v)) ∧ w = w' := by
  have HE : Hid (farB v = (decide (1000 < v) || decide (v < -1000))) := Lib.hid rfl
  by_cases h1 : 1000 < v
  · have e : farB v = true := by rw [HE.out, decide_eq_true h1]; rfl
    go_enter Tryz.func139, Tryz.ntmps139
    go_wp2_with fail
    go_ret
    exact ⟨by first | rfl | (rw [e]; rfl), rfl⟩
  · by_cases h2 : v < -1000
    · have e : farB v = true := by rw [HE.out, decide_eq_true h2, Bool.or_true]
      go_enter Tryz.func139, Tryz.ntmps139
      go_wp2_with fail
      go_ret
      exact ⟨by first | rfl | (rw [e]; rfl), rfl⟩
    · have e : farB v = false := by rw [HE.out, decide_eq_false h1, decide_eq_false h2]; rfl
      go_enter Tryz.func139, Tryz.ntmps139
      go_wp2_with fail
      go_ret
      exact ⟨by first | rfl | (rw [e]; rfl), rfl⟩

theorem far_any (v : Value) (x : List Int) (w : World) (hv : IsRow w w.heap.size v x) :
    Calls Tryz.prog 116 #[v] w fun e w' => e = .returned (.bool (x.any farB)) ∧ Below w.heap.size w w' := by
  have HC : Calls Tryz.prog 75 #[v, .func (.func 139) #[] #[]] w fun e w' => e = .returned (.bool (x.any farB)) ∧ Below w.heap.size w w' := by
    obtain ⟨A, c, rfl, hc, hm, hr⟩ := hv
    unfold maxLen at hm
    rcases Nat.eq_zero_or_pos x.length with h0 | h0
    · have : x = [] := List.eq_nil_of_length_eq_zero h0
      subst this
      exact (Tryz.slices_ContainsFunc_f75_empty (α := Int) A c _ w).mono fun e w' ⟨h1, h2⟩ => ⟨h1, h2 ▸ Below.refl _ _⟩
    · obtain ⟨b, o, rfl, _, hcell⟩ := hr.plain h0
      have h := Tryz.slices_ContainsFunc_f75 (Value.int .i64) farB 139 #[] (fun args w => enters_of Tryz.func139 (by kernel_rfl) rfl args w) b o x.length c x w
        (fun W y _ => (far1_any y W).mono fun e w' ⟨h1, h2⟩ => ⟨h1, 0, by rw [World.drewN_zero]; exact h2.symm⟩) (Nat.le_refl _) (by omega) (fun j hj => by rw [hcell j hj, getElem!_pos x j hj, List.getElem?_eq_getElem hj]; rfl)
      rw [List.take_of_length_le (Nat.le_refl _)] at h
      exact h.mono fun e w' ⟨h1, h2⟩ => ⟨h1, drew_below h2⟩
  have HH := Lib.hid HC
  obtain ⟨A, c, rfl⟩ := hv.shape
  clear HC hv
  generalize x.any farB = b at *
  go_enter Tryz.func116, Tryz.ntmps116
  go_wp2_with (go_at_call 75; refine HH.out.mono ?_; rintro e w1 ⟨rfl, hb1⟩)
  go_ret
  exact ⟨rfl, hb1⟩

set_option maxHeartbeats 1000000 in
theorem primeOpen_any (pv : Value) (p : List Int) (n d : Nat) (w : World) (hS : Std w) (hpv : IsRow w w.heap.size pv p) (hn : (decDigits n).length ≤ 18) (hd : (decDigits d).length ≤ 18) (hd0 : 0 < d) (hg : Nat.gcd n d = 1) :
    Calls Tryz.prog 60 #[pv, .agg #[.string ⟨(decDigits n).toArray⟩, .string ⟨(decDigits d).toArray⟩]] w fun e w' => e = .returned (.int .i64 (primeErr p)) ∧ Below w.heap.size w w' := by
  have hba : Below w.heap.size w (w.alloc (.cells #[.string ⟨(decDigits n).toArray⟩, .string ⟨(decDigits d).toArray⟩] 53)) := (Below.refl _ _).alloc (Nat.le_refl _) _
  have HPC := Lib.hid (primeCheck_any pv p _ _ (hpv.lift hba))
  have HFC := Lib.hid (fun W hW => fracCheck_yes (n : Int) (d : Int) W hW (by simpa using hn) (by simpa using hd) (by omega) (by simpa using hg))
  rw [itoa_nat, itoa_nat] at HFC
  have HS := Lib.hid hS
  have HBA := Lib.hid hba
  have HNC := Lib.hid (Cells.new w 53 #[.string ⟨(decDigits n).toArray⟩, .string ⟨(decDigits d).toArray⟩])
  obtain ⟨AP, cp, rfl⟩ := hpv.shape
  clear hS hpv hn hd hd0 hg hba
  generalize decDigits n = la at *
  generalize decDigits d = lb at *
  go_enter Tryz.func60, Tryz.ntmps60
  go_wp2_with fail
  refine HPC.out.mono ?_
  rintro e w1 ⟨rfl, hw⟩
  have hw2 := hw.symm
  clear hw
  subst hw2
  by_cases hE : primeErr p = 0
  · rw [hE]
    go_wp2_with fail
    refine (HFC.out _ (HS.out.below HBA.out (Nat.le_refl _))).mono ?_
    rintro e w2 ⟨rfl, hb2⟩
    have HB2 := Lib.hid (HBA.out.trans (hb2.mono HBA.out.size))
    clear hb2
    go_wp2_with fail
    go_ret
    exact ⟨by rw [hE]; rfl, HB2.out⟩
  · generalize hE2 : primeErr p = E at *
    go_wp2_with fail
    go_ret
    exact ⟨by rw [hE2]; rfl, HBA.out⟩

end Go.Proofs.YtcfkclafpbaagaaGreatDoor

namespace Go.Proofs.YtcfkclafpbaagaaGreatDoor
open Go.RowKit Go.Lib

set_option maxHeartbeats 1000000 in
theorem fracNew_any (n d : Int) (w : World) (hS : Std w) (hn : (itoa n).length ≤ 50000) (hd : (itoa d).length ≤ 50000) (hd0 : 0 < d) :
    Calls Tryz.prog 58 #[.string ⟨(itoa n).toArray⟩, .string ⟨(itoa d).toArray⟩] w fun e w' => e = .returned (.tuple #[.agg #[.string ⟨(itoa (lowN n d)).toArray⟩, .string ⟨(itoa (lowD n d)).toArray⟩], .int .i64 0]) ∧ Below w.heap.size w w' := by
  have HSG := Lib.hid (fun W => whSign_any d W (by omega))
  have hsg : sgn d = 1 := by unfold sgn; rw [if_neg (by omega), if_neg (by omega)]
  rw [hsg] at HSG
  have HL := Lib.hid (fun W hW => lowest_any n d W hW hn hd hd0)
  have HS := Lib.hid hS
  have hba : Below w.heap.size w (w.alloc (.cells #[.string ⟨#[]⟩, .string ⟨#[]⟩] 53)) := (Below.refl _ _).alloc (Nat.le_refl _) _
  have HBA := Lib.hid hba
  have HNC := Lib.hid (Cells.new w 53 #[.string ⟨#[]⟩, .string ⟨#[]⟩])
  clear hS hn hd hd0 hsg hba
  generalize lowN n d = ln at *
  generalize lowD n d = ld at *
  go_enter Tryz.func58, Tryz.ntmps58
  go_wp2_with fail
  refine (HSG.out _).mono ?_
  rintro e w1 ⟨rfl, hw⟩
  have hb1 : Below (w.alloc (.cells #[.string ⟨#[]⟩, .string ⟨#[]⟩] 53)).heap.size (w.alloc (.cells #[.string ⟨#[]⟩, .string ⟨#[]⟩] 53)) w1 := (by rw [← hw]; exact Below.refl _ _)
  have HB1 := Lib.hid (HBA.out.trans (hb1.mono HBA.out.size))
  have HC1 := Lib.hid (HNC.out.below hb1 HNC.out.lt)
  clear hw hb1
  go_wp2_with fail
  refine (HL.out _ (HS.out.below HB1.out (Nat.le_refl _))).mono ?_
  rintro e w2 ⟨rfl, hb2⟩
  have HB2 := Lib.hid (HB1.out.trans (hb2.mono HB1.out.size))
  have hc := HC1.out.below hb2 HC1.out.lt
  have z0 := hc.cell 0
  have z1 := hc.cell 1
  have y0 := hc.free 0
  have y1 := hc.free 1
  simp at z0 z1
  clear hb2 hc
  go_wp2_with fail
  refine bodyPost_ret (v := .tuple #[.agg #[.string ⟨(itoa ln).toArray⟩, .string ⟨(itoa ld).toArray⟩], .int .i64 0]) (by simp (maxDischargeDepth := 10) [results, Tryz.results58, go_sem, z0, z1]) rfl ⟨rfl, ?_⟩
  exact (HB2.out.setCell (Nat.le_refl _) _).setCell (Nat.le_refl _) _

set_option maxHeartbeats 1000000 in
theorem fracOf_any (n d : Int) (w : World) (hS : Std w) (hn : n.natAbs ≤ 1000000000000000000) (hd : d.natAbs ≤ 1000000000000000000) (hd0 : 0 < d) :
    Calls Tryz.prog 29 #[.int .i64 n, .int .i64 d] w fun e w' => e = .returned (.tuple #[.agg #[.string ⟨(itoa (lowN n d)).toArray⟩, .string ⟨(itoa (lowD n d)).toArray⟩], .int .i64 0]) ∧ Below w.heap.size w w' := by
  have hlen : ∀ z : Int, z.natAbs ≤ 1000000000000000000 → (itoa z).length ≤ 50000 := fun z hz => by
    have h := itoa_len z
    have h2 : (decDigits z.natAbs).length ≤ 19 := by rw [dec_length]; exact nDigits_le (by omega) (by omega)
    omega
  have HN := Lib.hid (fun W hW => whOf_any n W (by omega) (by omega) hW)
  have HD := Lib.hid (fun W hW => whOf_any d W (by omega) (by omega) hW)
  have HW := Lib.hid (fun W hW => fracNew_any n d W hW (hlen n hn) (hlen d hd) hd0)
  have HS := Lib.hid hS
  have hba : Below w.heap.size w (w.alloc (.cells #[.string ⟨#[]⟩, .string ⟨#[]⟩] 53)) := (Below.refl _ _).alloc (Nat.le_refl _) _
  have HBA := Lib.hid hba
  have HNC := Lib.hid (Cells.new w 53 #[.string ⟨#[]⟩, .string ⟨#[]⟩])
  clear hS hn hd hd0 hlen hba
  generalize lowN n d = ln at *
  generalize lowD n d = ld at *
  go_enter Tryz.func29, Tryz.ntmps29
  go_wp2_with fail
  refine (HN.out _ (HS.out.below HBA.out (Nat.le_refl _))).mono ?_
  rintro e w1 ⟨rfl, hb1⟩
  have HB1 := Lib.hid (HBA.out.trans (hb1.mono HBA.out.size))
  have HC1 := Lib.hid (HNC.out.below hb1 HNC.out.lt)
  clear hb1
  go_wp2_with fail
  refine (HD.out _ (HS.out.below HB1.out (Nat.le_refl _))).mono ?_
  rintro e w2 ⟨rfl, hb2⟩
  have HB2 := Lib.hid (HB1.out.trans (hb2.mono HB1.out.size))
  have HC2 := Lib.hid (HC1.out.below hb2 HC1.out.lt)
  clear hb2
  go_wp2_with fail
  refine (HW.out _ (HS.out.below HB2.out (Nat.le_refl _))).mono ?_
  rintro e w3 ⟨rfl, hb3⟩
  have HB3 := Lib.hid (HB2.out.trans (hb3.mono HB2.out.size))
  have hc := HC2.out.below hb3 HC2.out.lt
  have z0 := hc.cell 0
  have z1 := hc.cell 1
  have y0 := hc.free 0
  have y1 := hc.free 1
  simp at z0 z1
  clear hb3 hc
  go_wp2_with fail
  refine bodyPost_ret (v := .tuple #[.agg #[.string ⟨(itoa ln).toArray⟩, .string ⟨(itoa ld).toArray⟩], .int .i64 0]) (by simp (maxDischargeDepth := 10) [results, Tryz.results29, go_sem, z0, z1]) rfl ⟨rfl, ?_⟩
  exact (HB3.out.setCell (Nat.le_refl _) _).setCell (Nat.le_refl _) _

theorem dec99 {n : Nat} (h : n ≤ 99) : (decDigits n).length ≤ 18 := by
  rw [dec_length]
  have := nDigits_le (u := n) (k := 2) (by omega) (by omega)
  omega

set_option maxHeartbeats 1000000 in
theorem primeSmooth_any (pv : Value) (p : List Int) (n : Nat) (w : World) (hS : Std w) (hpv : IsRow w w.heap.size pv p) (hp : primeErr p = 0) (hn : n ≤ 99) (hn0 : 0 < n) :
    Calls Tryz.prog 30 #[pv, .agg #[.string ⟨(decDigits n).toArray⟩, .string ⟨#[49]⟩]] w fun e w' => e = .returned (.tuple #[.bool (smB p n 1), .int .i64 0]) ∧ Below w.heap.size w w' := by
  have hba : Below w.heap.size w (w.alloc (.cells #[.string ⟨(decDigits n).toArray⟩, .string ⟨#[49]⟩] 53)) := (Below.refl _ _).alloc (Nat.le_refl _) _
  have HO := Lib.hid (primeOpen_any pv p n 1 _ (hS.below hba (Nat.le_refl _)) (hpv.lift hba) (dec99 hn) (by decide +kernel) (by decide) (Nat.gcd_one_right n))
  have HF := Lib.hid (fun W hb => factor_any pv p n 1 W (hS.below (w := w) (B := w.heap.size) hb (Nat.le_refl _)) (hpv.lift hb) hp (dec99 hn) (by decide +kernel) hn0 (by decide))
  rw [hp, dec_one] at HO
  rw [dec_one] at HF
  have HBA := Lib.hid hba
  have HNC := Lib.hid (Cells.new w 53 #[.string ⟨(decDigits n).toArray⟩, .string ⟨#[49]⟩])
  obtain ⟨AP, cp, rfl⟩ := hpv.shape
  clear hS hpv hp hn hn0 hba
  generalize decDigits n = la at *
  generalize smB p n 1 = B at *
  go_enter Tryz.func30, Tryz.ntmps30
  go_wp2_with fail
  refine HO.out.mono ?_
  rintro e w1 ⟨rfl, hb1⟩
  have HB1 := Lib.hid (HBA.out.trans (hb1.mono HBA.out.size))
  have hc := HNC.out.below hb1 HNC.out.lt
  have z0 := hc.cell 0
  have z1 := hc.cell 1
  simp at z0 z1
  clear hb1 hc
  go_wp2_with fail
  refine (HF.out _ HB1.out).mono ?_
  rintro e w2 ⟨⟨v, rfl, _⟩, hb2⟩
  have HB2 := Lib.hid (HB1.out.trans (hb2.mono HB1.out.size))
  clear hb2
  go_wp2_with fail
  go_ret2
  exact ⟨rfl, HB2.out⟩

theorem small_exps {p : List Int} {n d : Nat} (hn : n < 10 ^ 18) (hd : d < 10 ^ 18) (n0 : 0 < n) (d0 : 0 < d) : (expsTo p n d p.length).any farB = false := by
  rw [List.any_eq_false]
  intro v hv
  have h := expsTo_small p n d hn hd n0 d0 p.length v hv
  unfold farB
  simp
  omega

/-- What Factor returns of n / 1 over a right list. -/
def FacPost (p : List Int) (n : Nat) (e : Ending) (w' : World) : Prop :=
  (smB p n 1 = true ∧ ∃ v, e = .returned (.tuple #[v, .int .i64 0]) ∧ ORow w' v (expsTo p n 1 p.length)) ∨ (smB p n 1 = false ∧ e = .returned (.tuple #[.slice Option.none 0 0, .int .i64 25]))

set_option maxHeartbeats 1000000 in
theorem primeFactor_any (pv : Value) (p : List Int) (n : Nat) (w : World) (hS : Std w) (hpv : IsRow w w.heap.size pv p) (hp : primeErr p = 0) (hn : n ≤ 99) (hn0 : 0 < n) :
    Calls Tryz.prog 87 #[pv, .agg #[.string ⟨(decDigits n).toArray⟩, .string ⟨#[49]⟩]] w fun e w' => FacPost p n e w' ∧ Below w.heap.size w w' := by
  have hba : Below w.heap.size w (w.alloc (.cells #[.string ⟨(decDigits n).toArray⟩, .string ⟨#[49]⟩] 53)) := (Below.refl _ _).alloc (Nat.le_refl _) _
  have HO := Lib.hid (primeOpen_any pv p n 1 _ (hS.below hba (Nat.le_refl _)) (hpv.lift hba) (dec99 hn) (by decide +kernel) (by decide) (Nat.gcd_one_right n))
  have HF := Lib.hid (fun W hb => factor_any pv p n 1 W (hS.below (w := w) (B := w.heap.size) hb (Nat.le_refl _)) (hpv.lift hb) hp (dec99 hn) (by decide +kernel) hn0 (by decide))
  have hsg : sgn (n : Int) = 1 := by unfold sgn; rw [if_neg (by omega), if_neg (by omega)]
  have HSG := Lib.hid (fun W => fracSign_any (n : Int) [49] W (by rw [itoa_nat]; have := dec99 hn; omega))
  rw [hsg, itoa_nat] at HSG
  have HFR := Lib.hid (fun W v h => far_any v (expsTo p n 1 p.length) W h)
  rw [small_exps (by omega) (by decide) hn0 (by decide)] at HFR
  rw [hp, dec_one] at HO
  rw [dec_one] at HF
  have HBA := Lib.hid hba
  have HNC := Lib.hid (Cells.new w 53 #[.string ⟨(decDigits n).toArray⟩, .string ⟨#[49]⟩])
  obtain ⟨AP, cp, rfl⟩ := hpv.shape
  clear hS hpv hp hn hn0 hba hsg
  generalize decDigits n = la at *
  go_enter Tryz.func87, Tryz.ntmps87
  go_wp2_with fail
  refine HO.out.mono ?_
  rintro e w1 ⟨rfl, hb1⟩
  have HB1 := Lib.hid (HBA.out.trans (hb1.mono HBA.out.size))
  have hc := HNC.out.below hb1 HNC.out.lt
  have z0 := hc.cell 0
  have z1 := hc.cell 1
  simp at z0 z1
  have HC1 := Lib.hid hc
  clear hb1 hc
  go_wp2_with fail
  refine (HSG.out _).mono ?_
  rintro e w2 ⟨rfl, hb2⟩
  have HB2 := Lib.hid (HB1.out.trans (hb2.mono HB1.out.size))
  have hc := HC1.out.below hb2 HC1.out.lt
  have z0' := hc.cell 0
  have z1' := hc.cell 1
  simp at z0' z1'
  clear hb2 hc z0 z1
  go_wp2_with fail
  refine (HF.out _ HB2.out).mono ?_
  rintro e w3 ⟨⟨v, rfl, hr⟩, hb3⟩
  have HB3 := Lib.hid (HB2.out.trans (hb3.mono HB2.out.size))
  have HFF := Lib.hid (HFR.out _ _ hr.row)
  have HR := Lib.hid hr
  obtain ⟨AV, cv, rfl⟩ := hr.shape
  clear hb3 hr
  by_cases hs : smB p n 1 = true
  · have HSM := Lib.hid hs
    rw [hs]
    clear hs
    go_wp2_with fail
    refine HFF.out.mono ?_
    rintro e w4 ⟨rfl, hb4⟩
    have HB4 := Lib.hid (HB3.out.trans (hb4.mono HB3.out.size))
    have HR4 := Lib.hid (HR.out.below hb4)
    clear hb4
    go_wp2_with fail
    go_ret2
    exact ⟨.inl ⟨HSM.out, _, rfl, HR4.out⟩, HB4.out⟩
  · have hs2 : smB p n 1 = false := by simpa using hs
    have HSM := Lib.hid hs2
    rw [hs2]
    clear hs hs2
    go_wp2_with fail
    go_ret2
    exact ⟨.inr ⟨HSM.out, rfl⟩, HB3.out⟩

/-- What number returns over a right list. -/
def NumPost (p : List Int) (n : Nat) (e : Ending) (w' : World) : Prop :=
  (smB p n 1 = true ∧ ∃ v, e = .returned (.tuple #[v, .bool true]) ∧ ORow w' v (expsTo p n 1 p.length)) ∨ (smB p n 1 = false ∧ e = .returned (.tuple #[.slice Option.none 0 0, .bool false]))

set_option maxHeartbeats 1000000 in
theorem tnum_any (pv : Value) (p : List Int) (n : Nat) (w : World) (hS : Std w) (hpv : IsRow w w.heap.size pv p) (hp : primeErr p = 0) (hn : n ≤ 99) (hn0 : 0 < n) :
    Calls Tryz.prog 57 #[pv, .int .i64 n] w fun e w' => NumPost p n e w' ∧ Below w.heap.size w w' := by
  have HO := Lib.hid (fracOf_any n 1 w hS (by omega) (by omega) (by omega))
  rw [(low_one (n : Int)).1, (low_one (n : Int)).2, itoa_nat, itoa_one] at HO
  have HF := Lib.hid (fun W hb => primeFactor_any pv p n W (hS.below (w := w) (B := w.heap.size) hb (Nat.le_refl _)) (hpv.lift hb) hp hn hn0)
  obtain ⟨AP, cp, rfl⟩ := hpv.shape
  clear hS hpv hp hn hn0
  generalize decDigits n = la at *
  go_enter Tryz.func57, Tryz.ntmps57
  go_wp2_with fail
  refine HO.out.mono ?_
  rintro e w1 ⟨rfl, hb1⟩
  have hba : Below w.heap.size w (w1.alloc (.cells #[.string ⟨la.toArray⟩, .string ⟨#[49]⟩] 53)) := hb1.alloc hb1.size _
  have HF1 := Lib.hid (HF.out _ hba)
  have HBA := Lib.hid hba
  clear hb1 hba
  go_wp2_with fail
  refine HF1.out.mono ?_
  rintro e w2 ⟨hpost, hb2⟩
  have HB2 := Lib.hid (HBA.out.trans (hb2.mono HBA.out.size))
  clear hb2
  rcases hpost with ⟨hs, v, rfl, hr⟩ | ⟨hs, rfl⟩
  · have HSM := Lib.hid hs
    have HR := Lib.hid hr
    clear hs hr
    go_wp2_with fail
    go_ret2
    exact ⟨.inl ⟨HSM.out, _, rfl, HR.out⟩, HB2.out⟩
  · have HSM := Lib.hid hs
    clear hs
    go_wp2_with fail
    go_ret2
    exact ⟨.inr ⟨HSM.out, rfl⟩, HB2.out⟩

end Go.Proofs.YtcfkclafpbaagaaGreatDoor

namespace Go.Proofs.YtcfkclafpbaagaaGreatDoor
open Go.RowKit Go.Lib

theorem Tryz.info_Size : (Tryz.prog.info? 134).map (fun i => (i.zero, i.size, i.bytes)) = some (some (.slice Option.none 0 0), 1, 24) := by kernel_rfl

/-- The first k sizes, as made. -/
def SzsTo (w : World) (B : Nat) (vs : List Value) (l : List (List Int)) (k : Nat) : Prop := vs.length = k ∧ ∀ j, j < k → ∃ v x, vs[j]? = some v ∧ l[j]? = some x ∧ SzAt w B v x

theorem SzAt.grown {w w' : World} {B : Nat} {v : Value} {x : List Int} {base n s : Nat} {e : TypeId} {v2 : Value} {xs : List Value} (h : SzAt w B v x) (ho : w.ownsRow base e s v2 n xs) (hne : e ≠ 53) (hg : w.grownBy w' v2.ownBlock) : SzAt w' B v x := by
  obtain ⟨g, rfl, hB, hc⟩ := h
  exact ⟨g, rfl, hB, hc.grown hg (own_ne_cells ho hc hne)⟩
theorem SzAt.below {w w' : World} {B : Nat} {v : Value} {x : List Int} (h : SzAt w B v x) (hb : Below w.heap.size w w') : SzAt w' B v x := by
  obtain ⟨g, rfl, hB, hc⟩ := h
  exact ⟨g, rfl, hB, hc.below hb hc.lt⟩
theorem SzAt.alloc {w : World} {B : Nat} {v : Value} {x : List Int} (h : SzAt w B v x) (o : Obj) : SzAt (w.alloc o) B v x := h.below ((Below.refl _ _).alloc (Nat.le_refl _) _)

set_option maxRecDepth 100000 in
set_option maxHeartbeats 2000000 in
theorem ivSizes (pv : Value) (p : List Int) (A : Option Addr) (c : Nat) (l : List (List Int)) (w : World) (hS : Std w) (hp : IsRow w w.heap.size pv p) (hl : RowsAt w w.heap.size A l) (hr : ∀ x ∈ l, chkAll p [x] = 0) (hn : l.length ≤ 1000) :
    Calls Tryz.prog 100 #[pv, .slice A l.length c] w fun e w' => (∃ v vs, e = .returned v ∧ w'.ownsRow w.heap.size 134 1 v l.length vs ∧ SzsTo w' w.heap.size vs l l.length) ∧ Below w.heap.size w w' := by
  obtain ⟨i0, hi0, hz0, hz1, hz2⟩ := info_parts Tryz.info_Size
  have HS := Lib.hid hS
  have HP := Lib.hid hp
  obtain ⟨AP, cp, rfl⟩ := hp.shape
  have HL : Box (RowsAt w w.heap.size A l) := ⟨hl⟩
  have HR : Box (∀ x ∈ l, chkAll p [x] = 0) := ⟨hr⟩
  clear hS hp hl hr
  go_enter Tryz.func100, Tryz.ntmps100
  go_wp2_with fail
  go_loopw [5, 12] (fun o i wr => ∃ (k : Nat) (vs : List Value), k ≤ l.length ∧ i = .int .i64 k ∧ wr.ownsRow w.heap.size 134 1 o k vs ∧ SzsTo wr w.heap.size vs l k ∧ Below w.heap.size w wr) (fun _ i _ => l.length - (intOf i).toNat)
  case atStart => exact ⟨0, [], Nat.zero_le _, rfl, World.ownsRow_nil _ _ _ _, ⟨rfl, fun j hj => by omega⟩, Below.refl _ _⟩
  case round =>
    obtain ⟨k, vs, hk, rfl, hown, hss, hbw⟩ := hrel
    by_cases hlt : k < l.length
    · obtain ⟨ad, v, rfl, hab, hca, hrow⟩ := HL.out.get k l[k] (List.getElem?_eq_getElem hlt)
      have hca' := (hbw.cell (p := ad.add k) (by rw [add_block]; exact hab)).trans hca
      have hck := HR.out _ (List.getElem_mem hlt)
      have HF := Lib.hid (szOf _ v p l[k] wr (HS.out.below hbw (Nat.le_refl _)) (HP.out.lift hbw) (hrow.lift hbw) hck)
      obtain ⟨AX, cx, rfl⟩ := hrow.shape
      have HO := Lib.hid hown
      have HSS := Lib.hid hss
      have HB := Lib.hid hbw
      have HXK := Lib.hid (List.getElem?_eq_getElem hlt)
      clear hown hss hca hrow hck hbw
      generalize l[k]'hlt = x at *
      go_wp2_with fail
      refine HF.out.mono ?_
      rintro e w2 ⟨⟨v2, rfl, hsz⟩, hb2⟩
      obtain ⟨g2, rfl, hge, hgc⟩ := hsz
      have HSZ : Hid (SzAt w2 w.heap.size (.slice (some ⟨g2, 0, Option.none⟩) x.length x.length) x) := Lib.hid ⟨g2, rfl, Nat.le_trans HB.out.size hge, hgc⟩
      have HO2 := Lib.hid (own_below HO.out hb2)
      have HB2 := Lib.hid (HB.out.trans (hb2.mono HB.out.size))
      have HSS2 : Hid (SzsTo w2 w.heap.size vs l k) := Lib.hid ⟨HSS.out.1, fun j hj => by
        obtain ⟨v, y, h1, h2, h3⟩ := HSS.out.2 j hj
        exact ⟨v, y, h1, h2, h3.below hb2⟩⟩
      have hwk : w.heap.size ≤ w2.heap.size := HB2.out.size
      clear hb2 hge hgc
      go_wp2_with (at_builtin; refine wpList_append_own _ rfl _ _ _ rfl w.heap.size 134 i0 (.slice Option.none 0 0) 1 24 Tryz.underlying130 hi0 hz0 hz1 hz2 rfl (by decide) _ _ _ rfl (HO2.out.alloc _) ⟨w2.heap.size, 0, Option.none⟩ 1 1 [_] rfl rfl (cell_one_new _ _ _) (by intro u hu; simp at hu; subst hu; rfl) (by unfold maxLen; omega) (by omega) (by simp; omega) ?_; intro v3 w3 hown3 hg3 _)
      go_roundw
      case rel =>
        refine ⟨k + 1, _, by omega, by go_num, hown3, ⟨by rw [List.length_append, HSS.out.1]; rfl, fun j hj => ?_⟩, (HB2.out.alloc hwk _).grown hg3 (by simp; omega) (fun k hk => (HO2.out.lt k hk).1)⟩
        by_cases hjk : j = k
        · subst hjk
          refine ⟨_, x, by rw [List.getElem?_append_right (by rw [HSS.out.1]; exact Nat.le_refl _), HSS.out.1, Nat.sub_self]; rfl, HXK.out, (HSZ.out.alloc _).grown (HO2.out.alloc _) (by decide) hg3⟩
        · obtain ⟨v, y, h1, h2, h3⟩ := HSS2.out.2 j (by omega)
          exact ⟨v, y, by rw [List.getElem?_append_left (by rw [HSS.out.1]; omega)]; exact h1, h2, (h3.alloc _).grown (HO2.out.alloc _) (by decide) hg3⟩
      case measure => simp [intOf]; omega
    · obtain rfl : k = l.length := by omega
      have HO := Lib.hid hown
      have HSS := Lib.hid hss
      have HB := Lib.hid hbw
      clear hown hss hbw
      go_wp2_with fail
      go_ret
      exact ⟨⟨_, vs, rfl, HO.out, HSS.out⟩, HB.out⟩

set_option maxRecDepth 100000 in
set_option maxHeartbeats 2000000 in
theorem ivFloor (pv xv uv : Value) (p x : List Int) (n : Nat) (q : Int) (w : World) (hS : Std w) (hp : IsRow w w.heap.size pv p) (hx : IsRow w w.heap.size xv x) (hu : IsRow w w.heap.size uv (uni n)) (hcx : chkAll p [x] = 0) (hpe : primeErr p = 0) (h : FlOk p x n q) :
    Calls Tryz.prog 72 #[pv, xv, uv] w fun e w' => e = .returned (.tuple #[.int .i64 q, .int .i64 0]) ∧ Below w.heap.size w w' := by
  have hcu : chkAll p [uni n] = 0 := by
    unfold chkAll
    rw [if_neg (by simpa using hpe)]
    unfold rowsErr rowErr rowsErr
    rw [uni_len, h.plen]
    have hf : (uni n).any farB = false := by
      rw [List.any_eq_false]
      intro z hz
      unfold uni at hz
      rcases List.mem_cons.1 hz with rfl | hz
      · decide
      · rw [(List.mem_replicate.1 hz).2]; decide
    simp [hf]
  have hba : Below w.heap.size w (w.alloc (.cells #[xv, uv] 28)) := (Below.refl _ _).alloc (Nat.le_refl _) _
  have hl : RowsAt (w.alloc (.cells #[xv, uv] 28)) (w.alloc (.cells #[xv, uv] 28)).heap.size (some ⟨w.heap.size, 0, Option.none⟩) [x, uni n] := by
    have h := rowsAt_two w xv uv x (uni n) 28 hx hu
    rw [World.size_alloc]
    exact h
  have HSZ := Lib.hid (ivSizes pv p (some ⟨w.heap.size, 0, Option.none⟩) 2 [x, uni n] _ (hS.below hba (Nat.le_refl _)) (hp.lift hba) hl (fun y hy => by
    rcases List.mem_cons.1 hy with rfl | hy
    · exact hcx
    · rw [List.mem_singleton.1 hy]; exact hcu) (by simp))
  rw [List.length_cons, List.length_cons, List.length_nil] at HSZ
  have HFF := Lib.hid (fun W av bv hb ha hb' => szFloorF pv av bv p x n q W (hS.below (w := w) (B := w.heap.size) hb (Nat.le_refl _)) (hp.lift hb) ha hb' hpe h)
  have HSM := Lib.hid (fun W => whSmall_any q W h.qb.1 h.qb.2)
  have HBA := Lib.hid hba
  have hxl : x.length ≤ 1000 := by have := h.len; have := h.le; omega
  have hul : (uni n).length ≤ 1000 := by rw [uni_len]; have := h.le; omega
  obtain ⟨AP, cp, rfl⟩ := hp.shape
  obtain ⟨AX, cx, rfl⟩ := hx.shape
  obtain ⟨AU, cu, rfl⟩ := hu.shape
  clear hS hp hx hu hcx hpe h hcu hl hba
  generalize itoa q = ql at *
  go_enter Tryz.func72, Tryz.ntmps72
  go_wp2_with fail
  refine HSZ.out.mono ?_
  rintro e w1 ⟨⟨v, vs, rfl, hown, hss⟩, hb1⟩
  obtain ⟨g, cap, rfl⟩ := ownsRow_succ hown
  obtain ⟨v1, y1, k1, k2, k3⟩ := hss.2 0 (by omega)
  obtain ⟨v2, y2, k4, k5, k6⟩ := hss.2 1 (by omega)
  cases k2
  cases k5
  have hB1 := HBA.out.trans (hb1.mono HBA.out.size)
  have hc0 := (hown.cellAt 0 (by omega)).trans k1
  have hc1 := (hown.cellAt 1 (by omega)).trans k4
  have hz1 := k3.isSize hxl
  have hz2 := k6.isSize hul
  obtain ⟨g1, rfl, _, _⟩ := k3
  obtain ⟨g2, rfl, _, _⟩ := k6
  have HZ1 := Lib.hid hz1
  have HZ2 := Lib.hid hz2
  have HB1 := Lib.hid hB1
  clear hown hss hb1 k1 k4 hz1 hz2 hB1
  go_wp2_with fail
  refine region_E (T := (fun w' => w'.cell? ⟨g, 0, Option.none⟩ = some (.slice (some ⟨g1, 0, Option.none⟩) x.length x.length) ∧ w'.cell? ⟨g, 1, Option.none⟩ = some (.slice (some ⟨g2, 0, Option.none⟩) (uni n).length (uni n).length))) (D := []) (S := (fun _ => True)) (E := []) (by kernel_rfl) ?_ (fun hHeld => ?_)
  · exact ⟨⟨hc0, hc1⟩, trivial⟩
  refine anyE_easyD (i := 0) (d := some 19) (oi := _) (v := ?ev15) rfl rfl (by kernel_rfl) (by kernel_rfl) (by kernel_rfl) (fun _ _ _ h => h) (Or.inl ⟨by rfl, ?eh15⟩) ?er15
  case eh15 => (intro w hSw; (try dsimp only at hSw); go_simp; try (with_reducible rfl))
  try simp only [Act.put, List.setIfInBounds_toArray, List.set_cons_zero, List.set_cons_succ]
  refine anyE_easyD (i := 1) (d := some 20) (oi := _) (v := ?ev16) rfl rfl (by kernel_rfl) (by kernel_rfl) (by kernel_rfl) (fun _ _ _ h => h) (Or.inl ⟨by rfl, ?eh16⟩) ?er16
  case eh16 => (intro w hSw; (try dsimp only at hSw); go_simp; try (with_reducible rfl))
  try simp only [Act.put, List.setIfInBounds_toArray, List.set_cons_zero, List.set_cons_succ]
  refine anyE_easyD (i := 2) (d := some 21) (oi := _) (v := ?ev17) rfl rfl (by kernel_rfl) (by kernel_rfl) (by kernel_rfl) (fun _ _ _ h => h) (Or.inl ⟨by rfl, ?eh17⟩) ?er17
  case eh17 => (intro w hSw; (try dsimp only at hSw); go_simp; try (with_reducible rfl))
  try simp only [Act.put, List.setIfInBounds_toArray, List.set_cons_zero, List.set_cons_succ]
  refine anyE_heldD (i := 3) (d := some 22) (oi := _) (v := ?ev18) rfl rfl (by kernel_rfl) (by kernel_rfl) (by kernel_rfl) (by kernel_rfl) (fun _ _ _ h => h) (Or.inl ⟨by rfl, ?eh18⟩) (by first | exact hHeld | exact And.left hHeld) ?er18
  case eh18 => (intro w hSw; (try dsimp only at hSw); go_simp; try (with_reducible rfl))
  try simp only [Act.put, List.setIfInBounds_toArray, List.set_cons_zero, List.set_cons_succ]
  refine anyE_easyD (i := 4) (d := some 23) (oi := _) (v := ?ev19) rfl rfl (by kernel_rfl) (by kernel_rfl) (by kernel_rfl) (fun _ _ _ h => h) (Or.inl ⟨by rfl, ?eh19⟩) ?er19
  case eh19 => (intro w hSw; (try dsimp only at hSw); go_simp; try (with_reducible rfl))
  try simp only [Act.put, List.setIfInBounds_toArray, List.set_cons_zero, List.set_cons_succ]
  refine anyE_easyD (i := 5) (d := some 24) (oi := _) (v := ?ev20) rfl rfl (by kernel_rfl) (by kernel_rfl) (by kernel_rfl) (fun _ _ _ h => h) (Or.inl ⟨by rfl, ?eh20⟩) ?er20
  case eh20 => (intro w hSw; (try dsimp only at hSw); go_simp; try (with_reducible rfl))
  try simp only [Act.put, List.setIfInBounds_toArray, List.set_cons_zero, List.set_cons_succ]
  refine anyE_heldD (i := 6) (d := some 25) (oi := _) (v := ?ev21) rfl rfl (by kernel_rfl) (by kernel_rfl) (by kernel_rfl) (by kernel_rfl) (fun _ _ _ h => h) (Or.inl ⟨by rfl, ?eh21⟩) (by first | exact hHeld | exact And.left hHeld) ?er21
  case eh21 => (intro w hSw; (try dsimp only at hSw); go_simp; try (with_reducible rfl))
  try simp only [Act.put, List.setIfInBounds_toArray, List.set_cons_zero, List.set_cons_succ]
  refine anyE_oneD (i := 7) (o := _) (d := some 26) (by kernel_rfl) rfl rfl (fun K hK => ?_)
  go_simp
  have hbd : Below w1.heap.size w1 w1.drew := below_drew (Below.refl _ _)
  refine (HFF.out _ _ _ (HB1.out.trans (hbd.mono HB1.out.size)) (HZ1.out.lift hbd) (HZ2.out.lift hbd)).mono ?_
  rintro e w2 ⟨rfl, hb2⟩
  have HB2 := Lib.hid ((HB1.out.trans (hbd.mono HB1.out.size)).trans (hb2.mono (HB1.out.trans (hbd.mono HB1.out.size)).size))
  have u0 := (hb2.cell (p := ⟨g, 0, Option.none⟩) (cell_lt hHeld.1.1)).trans hHeld.1.1
  have u1 := (hb2.cell (p := ⟨g, 1, Option.none⟩) (cell_lt hHeld.1.2)).trans hHeld.1.2
  clear hb2 hbd
  refine hK.out _ _ ?_ (fun hHeld => ?_)
  · exact ⟨⟨u0, u1⟩, trivial⟩
  refine anyE_easyD (i := 8) (d := some 18) (oi := _) (v := ?ev23) rfl rfl (by kernel_rfl) (by kernel_rfl) (by kernel_rfl) (fun _ _ _ h => h) (Or.inl ⟨by rfl, ?eh23⟩) ?er23
  case eh23 => (intro w hSw; (try dsimp only at hSw); go_simp; try (with_reducible rfl))
  try simp only [Act.put, List.setIfInBounds_toArray, List.set_cons_zero, List.set_cons_succ]
  refine anyE_easyD (i := 9) (d := some 27) (oi := _) (v := ?ev24) rfl rfl (by kernel_rfl) (by kernel_rfl) (by kernel_rfl) (fun _ _ _ h => h) (Or.inl ⟨by rfl, ?eh24⟩) ?er24
  case eh24 => (intro w hSw; (try dsimp only at hSw); go_simp; try (with_reducible rfl))
  try simp only [Act.put, List.setIfInBounds_toArray, List.set_cons_zero, List.set_cons_succ]
  refine anyE_easyD (i := 10) (d := some 28) (oi := _) (v := ?ev25) rfl rfl (by kernel_rfl) (by kernel_rfl) (by kernel_rfl) (fun _ _ _ h => h) (Or.inl ⟨by rfl, ?eh25⟩) ?er25
  case eh25 => (intro w hSw; (try dsimp only at hSw); go_simp; try (with_reducible rfl))
  try simp only [Act.put, List.setIfInBounds_toArray, List.set_cons_zero, List.set_cons_succ]
  refine anyE_easyD (i := 11) (d := some 9) (oi := _) (v := ?ev26) rfl rfl (by kernel_rfl) (by kernel_rfl) (by kernel_rfl) (fun _ _ _ h => h) (Or.inl ⟨by rfl, ?eh26⟩) ?er26
  case eh26 => (intro w hSw; (try dsimp only at hSw); go_simp; try (with_reducible rfl))
  try simp only [Act.put, List.setIfInBounds_toArray, List.set_cons_zero, List.set_cons_succ]
  refine anyE_easyD (i := 12) (d := some 10) (oi := _) (v := ?ev27) rfl rfl (by kernel_rfl) (by kernel_rfl) (by kernel_rfl) (fun _ _ _ h => h) (Or.inl ⟨by rfl, ?eh27⟩) ?er27
  case eh27 => (intro w hSw; (try dsimp only at hSw); go_simp; try (with_reducible rfl))
  try simp only [Act.put, List.setIfInBounds_toArray, List.set_cons_zero, List.set_cons_succ]
  refine anyE_done (by kernel_rfl) ?_ _
  go_wp2_with fail
  refine (HSM.out _).mono ?_
  rintro e w3 ⟨rfl, hb3⟩
  have HB3 := Lib.hid (HB2.out.trans (hb3.mono HB2.out.size))
  clear hb3
  go_wp2_with fail
  go_ret2
  exact ⟨rfl, HB3.out⟩

end Go.Proofs.YtcfkclafpbaagaaGreatDoor

namespace Go.Proofs.YtcfkclafpbaagaaGreatDoor
open Go.RowKit Go.Lib

set_option maxRecDepth 100000 in
set_option maxHeartbeats 1000000 in
theorem clone_own (v : Value) (x : List Int) (w : World) (h : IsRow w w.heap.size v x) (hx : x.length ≤ 1000) (h0 : 0 < x.length) :
    Calls Tryz.prog 103 #[v] w fun e w' => (∃ g c, e = .returned (.slice (some ⟨g, 0, Option.none⟩) x.length c) ∧ w'.ownsRow w.heap.size 3 1 (.slice (some ⟨g, 0, Option.none⟩) x.length c) x.length (is x)) ∧ Below w.heap.size w w' := by
  obtain ⟨i0, hi0, hz0, hz1, hz2⟩ := info_parts Tryz.info_int
  obtain ⟨A, c, rfl, h1, h2, hr⟩ := h
  have hE := fun W => Lib.run_eql_slice_nil (P := Tryz.prog) W 28 3 A x.length c 0 0 Tryz.underlying28
  cases A with
  | none =>
    obtain ⟨ad, hn, _⟩ := hr.2 0 (.int .i64 (x[0]?.getD 0)) (by unfold is; rw [List.getElem?_map, List.getElem?_eq_getElem h0]; rfl)
    cases hn
  | some ad =>
    have hcells : ∀ (j : Nat) u, (is x)[j]? = some u → (w.alloc (.cells #[] 3)).cell? (ad.add j) = some u := fun j u hu => by
      obtain ⟨ad', e, hb, hc⟩ := hr.2 j u hu
      injection e with e
      subst e
      exact keep_cell hc ((Below.refl w.heap.size w).alloc (Nat.le_refl _) _)
    have hown : (w.alloc (.cells #[] 3)).ownsRow w.heap.size 3 1 (.slice (some ⟨w.heap.size, 0, Option.none⟩) 0 0) 0 [] := Cells.own (k := 0) (Cells.new w 3 #[]) (Nat.le_refl _) rfl (Nat.zero_le _) (Nat.le_refl _)
    have HO := Lib.hid hown
    have HC := Lib.hid hcells
    have H0 : Box (0 < x.length) := ⟨h0⟩
    clear hown hcells hr h0
    go_enter Tryz.func103, Tryz.ntmps103
    go_wp2_with (at_builtin; refine wpList_append_own _ rfl _ _ _ rfl w.heap.size 3 i0 (.int .i64 0) 1 8 Tryz.underlying28 hi0 hz0 hz1 hz2 rfl (by decide) _ _ _ rfl HO.out ad x.length c (is x) rfl (by simp [is]) HC.out (by intro u hu; unfold is at hu; obtain ⟨z, _, rfl⟩ := List.mem_map.1 hu; rfl) (by unfold maxLen; omega) (by omega) (by simp) ?_; intro v3 w3 hown3 hg3 _)
    rw [List.nil_append, Nat.zero_add] at hown3
    have hbw : Below w.heap.size w w3 := ((Below.refl w.heap.size w).alloc (Nat.le_refl _) (.cells #[] 3)).grown hg3 (by simp) (fun k hk => (HO.out.lt k hk).1)
    have hsh : ∃ g c, v3 = .slice (some ⟨g, 0, Option.none⟩) x.length c := by
      rcases hown3.2 with ⟨_, h⟩ | ⟨g, cap, cur, hv, _⟩
      · have := H0.out; omega
      · exact ⟨g, cap, hv⟩
    obtain ⟨g, c3, rfl⟩ := hsh
    go_wp2_with fail
    go_ret
    exact ⟨⟨_, _, rfl, hown3⟩, hbw⟩

/-- An interval with a number of equaves more. -/
def addE (x : List Int) (n : Int) : List Int := x.set 0 (x[0]?.getD 0 + n)
theorem addE_len (x : List Int) (n : Int) : (addE x n).length = x.length := by simp [addE]
theorem is_set (x : List Int) (k : Nat) (z : Int) : (is x).set k (.int .i64 z) = is (x.set k z) := by unfold is; rw [List.map_set]

set_option maxRecDepth 100000 in
set_option maxHeartbeats 1000000 in
theorem ivEquaves (pv xv : Value) (p x : List Int) (n : Int) (w : World) (hp : IsRow w w.heap.size pv p) (hx : IsRow w w.heap.size xv x) (hl : x.length ≤ 1000) (h0 : 0 < x.length) (hb : (x[0]?.getD 0).natAbs ≤ 1000000) (hn : n.natAbs ≤ 1000000000) (hc : chkAll p [addE x n] = 0) :
    Calls Tryz.prog 74 #[pv, xv, .int .i64 n] w fun e w' => (∃ g c, e = .returned (.tuple #[.slice (some ⟨g, 0, Option.none⟩) x.length c, .int .i64 0]) ∧ ORow w' (.slice (some ⟨g, 0, Option.none⟩) x.length c) (addE x n)) ∧ Below w.heap.size w w' := by
  have HCL := Lib.hid (clone_own xv x w hx hl h0)
  have HP := Lib.hid hp
  obtain ⟨AP, cp, rfl⟩ := hp.shape
  obtain ⟨AX, cx, rfl⟩ := hx.shape
  have hw1 : IntKind.i64.wrap (x[0]?.getD 0 + n) = x[0]?.getD 0 + n := IntWalk.i64_in _ (by omega)
  have HCH := Lib.hid hc
  have h0i : (0 : Int) < (x.length : Int) := by omega
  clear hp hx hc
  have HE : Hid (addE x n = x.set 0 (x[0]?.getD 0 + n)) := Lib.hid rfl
  have HX0 := Lib.hid (show (is x)[0]? = some (.int .i64 (x[0]?.getD 0)) by unfold is; rw [List.getElem?_map, List.getElem?_eq_getElem h0]; rfl)
  generalize x[0]?.getD 0 = x0 at *
  go_enter Tryz.func74, Tryz.ntmps74
  go_wp2_with fail
  refine HCL.out.mono ?_
  rintro e w1 ⟨⟨g, c, rfl, hown⟩, hb1⟩
  have q0 := (hown.cellAt 0 (by omega)).trans HX0.out
  have f0 := hown.frozenAt 0
  have hst := (hown.stored 0 (.int .i64 (x0 + n)))
  have hgb := (hown.lt g rfl).1
  have HB1 := Lib.hid (hb1.setCell (p := ⟨g, 0, Option.none⟩) hgb (.int .i64 (x0 + n)))
  clear hb1
  go_wp2_with fail
  have hrow : ORow (w1.setCell ⟨g, 0, Option.none⟩ (.int .i64 (x0 + n))) (.slice (some ⟨g, 0, Option.none⟩) x.length c) (addE x n) := by
    have h := hst.1
    rw [is_set, ← HE.out] at h
    exact ORow.of_own (by rw [addE_len]; exact h)
  have HR := Lib.hid hrow
  have HCK := Lib.hid (check_any _ _ p (addE x n) _ (HP.out.lift HB1.out) hrow.row)
  rw [HCH.out] at HCK
  clear hrow hst hown
  refine HCK.out.mono ?_
  rintro e w2 ⟨rfl, hb2⟩
  have HR2 := Lib.hid (HR.out.below hb2)
  have HB2 := Lib.hid (HB1.out.trans (hb2.mono HB1.out.size))
  clear hb2
  go_wp2_with fail
  go_ret2
  exact ⟨⟨g, c, rfl, HR2.out⟩, HB2.out⟩

/-- What Reduce needs: right rows, the floor decided, the result right. -/
structure RedOk (p x : List Int) (n : Nat) (q : Int) : Prop where
  fl : FlOk p x n q
  pe : primeErr p = 0
  cx : chkAll p [x] = 0
  cr : chkAll p [addE x (-q)] = 0
  qs : q.natAbs ≤ 1000000

set_option maxRecDepth 100000 in
set_option maxHeartbeats 2000000 in
theorem ivReduce (pv xv : Value) (p x : List Int) (n : Nat) (q : Int) (w : World) (hS : Std w) (hp : IsRow w w.heap.size pv p) (hx : IsRow w w.heap.size xv x) (h : RedOk p x n q) :
    Calls Tryz.prog 39 #[pv, xv] w fun e w' => (∃ v, e = .returned (.tuple #[v, .int .i64 q, .int .i64 0]) ∧ ORow w' v (addE x (-q))) ∧ Below w.heap.size w w' := by
  have hlen := h.fl.len
  have hle := h.fl.le
  have hba : Below w.heap.size w (w.alloc (.cells #[xv] 28)) := (Below.refl _ _).alloc (Nat.le_refl _) _
  have HO := Lib.hid (open_one pv xv w.heap.size p x _ (hp.lift hba) (Cells.new w 28 #[xv]) (hx.lift hba))
  rw [h.cx] at HO
  have HU := Lib.hid (fun W (hb : Below w.heap.size w W) => ivUnit pv p n W (hp.lift hb) h.fl.plen (by omega))
  have HF := Lib.hid (fun W uv (hb : Below w.heap.size w W) hu => ivFloor pv xv uv p x n q W (hS.below hb (Nat.le_refl _)) (hp.lift hb) (hx.lift hb) hu h.cx h.pe h.fl)
  have hx0 : (x[0]?.getD 0).natAbs ≤ 1000000 := by
    rw [List.getElem?_eq_getElem (by omega)]
    exact h.fl.small _ (List.getElem_mem _)
  have HE := Lib.hid (fun W (hb : Below w.heap.size w W) => ivEquaves pv xv p x (-q) W (hp.lift hb) (hx.lift hb) (by omega) (by omega) hx0 (by have := h.qs; omega) h.cr)
  have HBA := Lib.hid hba
  have hqs := h.qs
  have hwq : IntKind.i64.wrap (-q) = -q := IntWalk.i64_in _ (by omega)
  obtain ⟨AP, cp, rfl⟩ := hp.shape
  obtain ⟨AX, cx, rfl⟩ := hx.shape
  clear hS hp hx h hba hx0 hlen hle
  go_enter Tryz.func39, Tryz.ntmps39
  go_wp2_with fail
  refine HO.out.mono ?_
  rintro e w1 ⟨rfl, hb1⟩
  have HB1 := Lib.hid (HBA.out.trans (hb1.mono HBA.out.size))
  clear hb1
  go_wp2_with fail
  refine (HU.out _ HB1.out).mono ?_
  rintro e w2 ⟨⟨uv, rfl, hu⟩, hb2⟩
  have HB2 := Lib.hid (HB1.out.trans (hb2.mono HB1.out.size))
  have HFF := Lib.hid (HF.out _ _ HB2.out hu)
  obtain ⟨AU, cu, rfl⟩ := hu.shape
  clear hb2 hu
  go_wp2_with fail
  refine HFF.out.mono ?_
  rintro e w3 ⟨rfl, hb3⟩
  have HB3 := Lib.hid (HB2.out.trans (hb3.mono HB2.out.size))
  clear hb3
  go_wp2_with fail
  refine (HE.out _ HB3.out).mono ?_
  rintro e w4 ⟨⟨g, c, rfl, hr⟩, hb4⟩
  have HR := Lib.hid hr
  have HB4 := Lib.hid (HB3.out.trans (hb4.mono HB3.out.size))
  clear hb4 hr
  go_wp2_with fail
  refine bodyPost_ret (v := .tuple #[.slice (some ⟨g, 0, Option.none⟩) x.length c, .int .i64 q, .int .i64 0]) (by simp [results, Tryz.results39, go_sem]) rfl ⟨⟨_, rfl, HR.out⟩, HB4.out⟩

set_option maxRecDepth 100000 in
set_option maxHeartbeats 2000000 in
theorem ivInverse (pv xv : Value) (p x : List Int) (n : Nat) (q : Int) (w : World) (hS : Std w) (hp : IsRow w w.heap.size pv p) (hx : IsRow w w.heap.size xv x) (hcx : chkAll p [x] = 0) (h : RedOk p (timesTo x (-1) x.length) n q) :
    Calls Tryz.prog 15 #[pv, xv] w fun e w' => (∃ v, e = .returned (.tuple #[v, .int .i64 0]) ∧ ORow w' v (addE (timesTo x (-1) x.length) (-q))) ∧ Below w.heap.size w w' := by
  have HN := Lib.hid (neg_ok pv xv p x w hp hx hcx)
  have HR := Lib.hid (fun W yv (hb : Below w.heap.size w W) hy => ivReduce pv yv p (timesTo x (-1) x.length) n q W (hS.below hb (Nat.le_refl _)) (hp.lift hb) hy h)
  have hcy := h.cx
  obtain ⟨AP, cp, rfl⟩ := hp.shape
  obtain ⟨AX, cx, rfl⟩ := hx.shape
  clear hS hp hx h hcx
  go_enter Tryz.func15, Tryz.ntmps15
  go_wp2_with fail
  refine HN.out.mono ?_
  rintro e w1 ⟨hr, hb1⟩
  obtain ⟨A1, c1, rfl, h1⟩ := hr.row hcy
  have HB1 := Lib.hid hb1
  have HR1 := Lib.hid (HR.out _ _ HB1.out h1)
  clear hb1 h1 hr
  go_wp2_with fail
  refine HR1.out.mono ?_
  rintro e w2 ⟨⟨v, rfl, h2⟩, hb2⟩
  have H2 := Lib.hid h2
  have HB2 := Lib.hid (HB1.out.trans (hb2.mono HB1.out.size))
  clear h2 hb2
  go_wp2_with fail
  go_ret2
  exact ⟨⟨_, rfl, H2.out⟩, HB2.out⟩

end Go.Proofs.YtcfkclafpbaagaaGreatDoor

namespace Go.Proofs.YtcfkclafpbaagaaGreatDoor
open Go.RowKit Go.Lib Go.Shelf

set_option maxHeartbeats 400000 in
theorem isZero1_any (v : Int) (w : World) : Calls Tryz.prog 76 #[.int .i64 v] w fun e w' => e = .returned (.bool (!(v == 0))) ∧ w = w' := by
  go_enter Tryz.func76, Tryz.ntmps76
  go_wp2_with fail
  go_ret
  exact ⟨rfl, rfl⟩

/-- All elements are 0. -/
def zeroB (x : List Int) : Bool := !(x.any fun v => !(v == 0))
theorem isZero_any (v : Value) (x : List Int) (w : World) (hv : IsRow w w.heap.size v x) :
    Calls Tryz.prog 40 #[v] w fun e w' => e = .returned (.bool (zeroB x)) ∧ Below w.heap.size w w' := by
  have HC : Calls Tryz.prog 75 #[v, .func (.func 76) #[] #[]] w fun e w' => e = .returned (.bool (x.any (fun v => !(v == 0)))) ∧ Below w.heap.size w w' := by
    obtain ⟨A, c, rfl, hc, hm, hr⟩ := hv
    unfold maxLen at hm
    rcases Nat.eq_zero_or_pos x.length with h0 | h0
    · have : x = [] := List.eq_nil_of_length_eq_zero h0
      subst this
      exact (Tryz.slices_ContainsFunc_f75_empty (α := Int) A c _ w).mono fun e w' ⟨h1, h2⟩ => ⟨h1, h2 ▸ Below.refl _ _⟩
    · obtain ⟨b, o, rfl, _, hcell⟩ := hr.plain h0
      have h := Tryz.slices_ContainsFunc_f75 (Value.int .i64) (fun v => !(v == 0)) 76 #[] (fun args w => enters_of Tryz.func76 (by kernel_rfl) rfl args w) b o x.length c x w
        (fun W y _ => (isZero1_any y W).mono fun e w' ⟨h1, h2⟩ => ⟨h1, 0, by rw [World.drewN_zero]; exact h2.symm⟩) (Nat.le_refl _) (by omega) (fun j hj => by rw [hcell j hj, getElem!_pos x j hj, List.getElem?_eq_getElem hj]; rfl)
      rw [List.take_of_length_le (Nat.le_refl _)] at h
      exact h.mono fun e w' ⟨h1, h2⟩ => ⟨h1, drew_below h2⟩
  have HH := Lib.hid HC
  obtain ⟨A, c, rfl⟩ := hv.shape
  have HZ : Hid (zeroB x = !(x.any fun v => !(v == 0))) := Lib.hid rfl
  clear HC hv
  generalize (x.any fun v => !(v == 0)) = b at *
  go_enter Tryz.func40, Tryz.ntmps40
  go_wp2_with (go_at_call 75; refine HH.out.mono ?_; rintro e w1 ⟨rfl, hb1⟩)
  go_ret
  exact ⟨by rw [HZ.out]; rfl, hb1⟩

theorem rowBoth_yes (xv yv : Value) (x y : List Int) (w : World) (hx : IsRow w w.heap.size xv x) (hy : IsRow w w.heap.size yv y) (h1 : rowChk x = 0) (h2 : rowChk y = 0) (hl : x.length = y.length) :
    Calls Tryz.prog 113 #[xv, yv] w fun e w' => e = .returned (.int .i64 0) ∧ Below w.heap.size w w' := by
  have HX := Lib.hid (rowCheck_any xv x w hx)
  have HY := Lib.hid (fun W (hb : Below w.heap.size w W) => rowCheck_any yv y W (hy.lift hb))
  rw [h1] at HX
  rw [h2] at HY
  obtain ⟨AX, cx, rfl⟩ := hx.shape
  obtain ⟨AY, cy, rfl⟩ := hy.shape
  rw [hl] at HX ⊢
  clear hx hy h1 h2 hl
  go_enter Tryz.func113, Tryz.ntmps113
  go_wp2_with fail
  refine HX.out.mono ?_
  rintro e w1 ⟨rfl, hb1⟩
  have HB1 := Lib.hid hb1
  clear hb1
  go_wp2_with fail
  refine (HY.out _ HB1.out).mono ?_
  rintro e w2 ⟨rfl, hb2⟩
  have HB2 := Lib.hid (HB1.out.trans (hb2.mono HB1.out.size))
  clear hb2
  go_wp2_with fail
  go_ret
  exact ⟨rfl, HB2.out⟩

theorem rowResult_yes (A : Option Addr) (c : Nat) (x : List Int) (w : World) (hx : IsRow w w.heap.size (.slice A x.length c) x) (h1 : rowChk x = 0) :
    Calls Tryz.prog 115 #[.slice A x.length c] w fun e w' => e = .returned (.tuple #[.slice A x.length c, .int .i64 0]) ∧ Below w.heap.size w w' := by
  have HX := Lib.hid (rowCheck_any _ x w hx)
  rw [h1] at HX
  clear hx h1
  go_enter Tryz.func115, Tryz.ntmps115
  go_wp2_with fail
  refine HX.out.mono ?_
  rintro e w1 ⟨rfl, hb1⟩
  go_wp2_with fail
  go_ret2
  exact ⟨rfl, hb1⟩

attribute [local go_sem] Oper.semAt_some

/-- A pair of elements. -/
abbrev Prw := { x : Int × Int // x.1.natAbs ≤ 1000000000 ∧ x.2.natAbs ≤ 1000000000 }
def prwEnc (x : Prw) : Array Value := #[.int .i64 x.1.1, .int .i64 x.1.2]
def prw1 (l : List Prw) : List Int := l.map fun x => x.1.1
def prw2 (l : List Prw) : List Int := l.map fun x => x.1.2

set_option maxRecDepth 100000 in
set_option maxHeartbeats 2000000 in
theorem pairs1_in (n : Nat) (hn : 1 ≤ n) (l Bs1 Bs n₀ : Nat) (A1 A2 : Option Addr) (c1 c2 : Nat) (zs : List Prw) (J Jx : List Prw → World → Prop) (W : World)
    (hz : zs.length ≤ 1000)
    (hY : ∀ pre x W, J pre W → pre.length < zs.length → YieldAt Fence.wide (n - 1) Tryz.prog l (prwEnc x) W fun e W' =>
      (e = .returned (.bool true) ∧ J (pre ++ [x]) W' ∧ KpB 28 n₀ Bs W W') ∨ (e = .returned (.bool false) ∧ Jx (pre ++ [x]) W'))
    (hc1 : Cells W Bs1 28 [.slice A1 zs.length c1]) (hc : Cells W Bs 28 [.slice A2 zs.length c2]) (h1 : Row W n₀ 1 A1 zs.length (is (prw1 zs))) (h2 : Row W n₀ 1 A2 zs.length (is (prw2 zs))) (h0 : J [] W) :
    CallsIn Fence.wide n Tryz.prog 138 #[.func (.yield l) #[] #[], .pointer (some ⟨Bs1, 0, Option.none⟩), .pointer (some ⟨Bs, 0, Option.none⟩)] W fun e W' => (∃ v, e = .returned v) ∧
      ((∃ ys, ys = zs ∧ J ys W') ∨ (∃ pre, pre <+: zs ∧ Jx pre W')) := by
  refine callsIn_of_wp Tryz.func138 rfl trivial ?_ rfl
  simp only [Tryz.ntmps138, List.size_toArray, List.length_cons, List.length_nil, Nat.reduceAdd, Nat.reduceSub, Array.replicate_succ, Array.replicate_zero, List.push_toArray, List.append_toArray, List.nil_append, List.cons_append]
  have g0 := hc1.cell 0
  simp at g0
  gi_wp2
  gi_loopw [8] (fun i wr => ∃ k : Nat, k ≤ zs.length ∧ i = .int .i64 k ∧ J (zs.take k) wr ∧ KpB 28 n₀ Bs W wr) (fun i _ => zs.length - (intOf i).toNat)
  case atStart => exact ⟨0, Nat.zero_le _, rfl, h0, KpB.refl _ _ _ _⟩
  case round =>
    obtain ⟨k, hk, rfl, hJs, hnx⟩ := hrel
    have g1' : wr.cell? ⟨Bs, 0, Option.none⟩ = some (.slice A2 zs.length c2) := (hnx.2 _ hc).cell 0
    by_cases hlt : k < zs.length
    · obtain ⟨ad1, rfl, hb1, q1⟩ := h1.i_at hlt
      obtain ⟨ad2, rfl, hb2, q2⟩ := h2.i_at hlt
      have q1' := (hnx.1.cell (p := ad1.add k) (by rw [add_block]; exact hb1)).trans q1
      have q2' := (hnx.1.cell (p := ad2.add k) (by rw [add_block]; exact hb2)).trans q2
      rw [show (prw1 zs)[k]?.getD 0 = zs[k].1.1 by unfold prw1; rw [List.getElem?_map, List.getElem?_eq_getElem hlt]; rfl] at q1'
      rw [show (prw2 zs)[k]?.getD 0 = zs[k].1.2 by unfold prw2; rw [List.getElem?_map, List.getElem?_eq_getElem hlt]; rfl] at q2'
      have htk : zs.take (k + 1) = zs.take k ++ [zs[k]] := (List.take_append_getElem hlt).symm
      obtain ⟨fn, tmps, assign, body, hy, hR⟩ := hY _ zs[k] wr hJs (by rw [List.length_take]; omega)
      unfold prwEnc at hy
      generalize zs[k] = x at *
      gi_wp2
      refine hR.mono ?_
      rintro e W3 (⟨rfl, hJ3, hk3⟩ | ⟨rfl, hJx3⟩)
      · gi_wp2
        go_roundw
        case rel => exact ⟨k + 1, by omega, by simp, by rw [htk]; exact hJ3, kpB_t hnx hk3⟩
        case measure => simp [intOf]; omega
      · gi_wp2
        refine bodyPost_ret (results_none rfl _ _ _) rfl ?_
        exact ⟨⟨_, rfl⟩, .inr ⟨_, List.take_prefix (k + 1) zs, by rw [htk]; exact hJx3⟩⟩
    · obtain rfl : k = zs.length := by omega
      rw [List.take_length] at hJs
      gi_wp2
      go_end0
      exact ⟨⟨_, rfl⟩, .inl ⟨_, rfl, hJs⟩⟩

theorem pairs_stops (n : Nat) (hn : 1 ≤ n) (Bs1 Bs n₀ : Nat) (A1 A2 : Option Addr) (c1 c2 : Nat) (zs : List Prw) (w : World) (hn₀ : n₀ ≤ w.heap.size) (hz : zs.length ≤ 1000)
    (hc1 : Cells w Bs1 28 [.slice A1 zs.length c1]) (hc : Cells w Bs 28 [.slice A2 zs.length c2]) (h1 : Row w n₀ 1 A1 zs.length (is (prw1 zs))) (h2 : Row w n₀ 1 A2 zs.length (is (prw2 zs))) :
    SeqStopsK Fence.wide n Tryz.prog 138 #[.pointer (some ⟨Bs1, 0, Option.none⟩), .pointer (some ⟨Bs, 0, Option.none⟩)] prwEnc (KpB 28 n₀ Bs) (fun ys => ys = zs) (fun pre => pre <+: zs) zs.length w := fun l J Jx W hW _ _ hY h0 =>
  pairs1_in n hn l Bs1 Bs n₀ A1 A2 c1 c2 zs J Jx W hz hY (hc1.below hW hc1.lt) (hc.below hW hc.lt) (h1.below (hW.mono hn₀) (Nat.le_refl _)) (h2.below (hW.mono hn₀) (Nat.le_refl _)) h0

set_option maxHeartbeats 1000000 in
theorem pairs_in (n : Nat) (A1 A2 : Option Addr) (n1 n2 c1 c2 : Nat) (w : World) :
    CallsIn Fence.wide n Tryz.prog 114 #[.slice A1 n1 c1, .slice A2 n2 c2] w fun e w' => e = .returned (.func (.func 138) #[] #[.pointer (some ⟨w.heap.size, 0, Option.none⟩), .pointer (some ⟨w.heap.size + 1, 0, Option.none⟩)]) ∧ w' = (w.alloc (.cells #[.slice A1 n1 c1] 28)).alloc (.cells #[.slice A2 n2 c2] 28) := by
  refine callsIn_of_wp Tryz.func114 rfl trivial ?_ rfl
  simp only [Tryz.ntmps114, List.size_toArray, List.length_cons, List.length_nil, Nat.reduceAdd, Nat.reduceSub, Array.replicate_succ, Array.replicate_zero, List.push_toArray, List.append_toArray, List.nil_append, List.cons_append]
  gi_wp2
  go_ret
  exact ⟨rfl, rfl⟩

end Go.Proofs.YtcfkclafpbaagaaGreatDoor

namespace Go.Proofs.YtcfkclafpbaagaaGreatDoor
open Go.RowKit Go.Lib Go.Shelf
attribute [local go_sem] Oper.semAt_some

def prwD (l : List Prw) : List Int := l.map fun x => x.1.1 - x.1.2
theorem prwD_snoc (l : List Prw) (x : Prw) : prwD (l ++ [x]) = prwD l ++ [x.1.1 - x.1.2] := by simp [prwD]
theorem prwD_len (l : List Prw) : (prwD l).length = l.length := by simp [prwD]

set_option maxRecDepth 100000 in
set_option maxHeartbeats 4000000 in
theorem rowSub_prw (xv yv : Value) (zs : List Prw) (w : World) (hz : zs.length ≤ 64)
    (hx : IsRow w w.heap.size xv (prw1 zs)) (hy : IsRow w w.heap.size yv (prw2 zs)) (hd : rowChk (prwD zs) = 0) (h1c : rowChk (prw1 zs) = 0) (h2c : rowChk (prw2 zs) = 0) :
    Calls Tryz.prog 86 #[xv, yv] w fun e w' => (∃ A c, e = .returned (.tuple #[.slice A zs.length c, .int .i64 0]) ∧ ORow w' (.slice A zs.length c) (prwD zs)) ∧ Below w.heap.size w w' := by
  obtain ⟨i0, hi, hz0, hz1, hz2⟩ := info_parts Tryz.info_int
  have e1 : (prw1 zs).length = zs.length := by simp [prw1]
  have e2 : (prw2 zs).length = zs.length := by simp [prw2]
  have HBO := Lib.hid (rowBoth_yes xv yv (prw1 zs) (prw2 zs) w hx hy h1c h2c (by rw [e1, e2]))
  obtain ⟨A1, c1, rfl, _, _, hr1⟩ := hx
  obtain ⟨A2, c2, rfl, _, _, hr2⟩ := hy
  rw [e1] at hr1 HBO ⊢
  rw [e2] at hr2 HBO ⊢
  refine (callsIn_wide (n := 3)).1 ?_
  refine callsIn_of_wp_marks Tryz.func86 rfl trivial ?_ rfl
  simp only [Tryz.ntmps86, List.size_toArray, List.length_cons, List.length_nil, Nat.reduceAdd, Nat.reduceSub, Array.replicate_succ, Array.replicate_zero, List.push_toArray, List.append_toArray, List.nil_append, List.cons_append]
  gi_wp2_with (first | (refine ⟨trivial, ?_⟩; gi_at_call 113; refine (callsIn_wide.2 HBO.out).mono ?_; rintro e w1 ⟨rfl, hb1⟩) | (gi_at_make; refine wpListIn_make_own _ rfl _ _ _ rfl w1.heap.size 3 i0 (.int .i64 0) 1 Tryz.underlying28 hi hz0 hz1 .i64 .i64 _ zs.length rfl rfl (by omega) (by rw [hz2]; omega) (by unfold maxLen; omega) (Nat.le_refl _) ?_; intro w2 hown2 hg2) | (refine ⟨trivial, ?_⟩; gi_at_call 114; refine (pairs_in _ _ _ _ _ _ _ _).mono ?_; rintro e w' ⟨rfl, rfl⟩))
  have HB1 := Lib.hid hb1
  have hb2 : Below w1.heap.size w1 w2 := (Below.refl _ _).grown hg2 (Nat.le_refl _) (by simp)
  have hs2 := hb2.size
  have c0 := Boxed.new w2 28 (.slice (some ⟨w1.heap.size, 0, Option.none⟩) 0 zs.length)
  have c1' := Cells.new (w2.alloc (.cells #[.slice (some ⟨w1.heap.size, 0, Option.none⟩) 0 zs.length] 28)) 28 #[.slice A1 zs.length c1]
  have c2' := Cells.new ((w2.alloc (.cells #[.slice (some ⟨w1.heap.size, 0, Option.none⟩) 0 zs.length] 28)).alloc (.cells #[.slice A1 zs.length c1] 28)) 28 #[.slice A2 zs.length c2]
  rw [World.size_alloc] at c1'
  rw [World.size_alloc, World.size_alloc] at c2'
  have hB0 : Below w1.heap.size w1 (((w2.alloc (.cells #[.slice (some ⟨w1.heap.size, 0, Option.none⟩) 0 zs.length] 28)).alloc (.cells #[.slice A1 zs.length c1] 28)).alloc (.cells #[.slice A2 zs.length c2] 28)) :=
    ((hb2.alloc hs2 _).alloc (by simp; omega) _).alloc (by simp; omega) _
  have hn0 : w1.heap.size ≤ (((w2.alloc (.cells #[.slice (some ⟨w1.heap.size, 0, Option.none⟩) 0 zs.length] 28)).alloc (.cells #[.slice A1 zs.length c1] 28)).alloc (.cells #[.slice A2 zs.length c2] 28)).heap.size := hB0.size
  refine wpIn_rangeFunc_ownG rfl (by omega) (gf := 138) (lb := #[.pointer (some ⟨w2.heap.size + 1, 0, Option.none⟩), .pointer (some ⟨w2.heap.size + 1 + 1, 0, Option.none⟩)]) rfl trivial (enters_of Tryz.func138 (by kernel_rfl) rfl)
    (pairs_stops _ (by omega) (w2.heap.size + 1) (w2.heap.size + 1 + 1) w1.heap.size A1 A2 c1 c2 zs _ hn0 (by omega) (c1'.alloc _) c2' (((hr1.below hb1 (Nat.le_refl _)).up hb1.size).below hB0 (Nat.le_refl _)) (((hr2.below hb1 (Nat.le_refl _)).up hb1.size).below hB0 (Nat.le_refl _))) kpB_t (kpB_b hn0 c2'.lt) (Below.refl _ _) (fun _ => rfl)
    (fun pre W => (∃ v, Boxed W w2.heap.size 28 v ∧ W.ownsRow w1.heap.size 3 1 v pre.length (is (prwD pre)) ∧ True) ∧ Below w1.heap.size w1 W)
    (fun _ _ _ => False)
    (OwnFrom.and (Own.from (holdsRow_own w1.heap.size w2.heap.size 28 3 1 (fun pre : List Prw => pre.length) (fun pre => is (prwD pre)) (fun _ _ => True)) _) (ownFrom_below (Nat.le_refl _) hn0))
    (fun _ _ _ _ _ hs _ _ => hs)
    ⟨⟨_, (c0.alloc _).alloc _, ((hown2.alloc _).alloc _).alloc _, trivial⟩, hB0⟩
    (fun x : Prw => { tmps := #[Value.slice A1 zs.length c1, Value.slice A2 zs.length c2, undef, undef, Value.slice Option.none 0 0, Value.int .i64 0, Value.int .i64 0, Value.pointer (some { block := w2.heap.size, off := 0 }), .int .i64 x.1.1, .int .i64 x.1.2, Value.slice A1 zs.length c1, Value.slice A2 zs.length c2, Value.int .i64 0, Value.int .i64 0, Value.bool false, undef, Value.slice A1 zs.length c1, Value.int .i64 (zs.length : Int), Value.slice (some { block := w1.heap.size, off := 0 }) 0 zs.length, Value.slice A1 zs.length c1, Value.slice A2 zs.length c2, Value.func (Fn.func 138) #[] #[Value.pointer (some { block := w2.heap.size + 1, off := 0 }), Value.pointer (some { block := w2.heap.size + 1 + 1, off := 0 })], .int .i64 x.1.1, .int .i64 x.1.2, undef, undef, undef, undef, undef, undef, undef, undef, undef, undef], defers := [] }) ?assign ?body ?done ?stop
  case assign =>
    intro l x W K hK
    dsimp only [prwEnc] at *
    gi_wp2
    exact hK
  case body =>
    rintro l pre x W ⟨⟨v, hv, hrow, _⟩, hB⟩ hpl
    have hcv := hv.cell
    have hsz := hB.size
    have hx1 := x.2.1
    have hx2 := x.2.2
    have hws : IntKind.i64.wrap (x.1.1 - x.1.2) = x.1.1 - x.1.2 := IntWalk.i64_in _ (by omega)
    have HSN := Lib.hid (prwD_snoc pre x)
    generalize x.1.1 = xa at *
    generalize x.1.2 = xb at *
    gi_wp2_with (gi_at_builtin; refine wpListIn_append_own _ rfl _ _ _ rfl w1.heap.size 3 i0 (.int .i64 0) 1 8 Tryz.underlying28 hi hz0 hz1 hz2 rfl (by decide) _ _ _ rfl (hrow.alloc _) ⟨W.heap.size, 0, Option.none⟩ 1 1 [.int .i64 (xa - xb)] rfl rfl (cell_one_new _ _ _) (by simp [Value.oneCell']) (by unfold maxLen; omega) (by omega) (by simp; omega) ?_; intro v' w9 hown' hgrow _; obtain ⟨g', cap', rfl⟩ := ownsRow_succ hown'; obtain ⟨hv1, hv2, hr2', hk2, hb2'⟩ := hv.appended (by decide) hrow hsz hs2 hown' hgrow; have hc9 := hv1.cell; have hf9 := hv1.frozen)
    refine ⟨hk2.from _, ⟨hb2', fun xs hc => ?_⟩, ⟨_, hv2, ?_⟩, hB.trans hb2'⟩
    · have hc2 := hc.alloc (.cells #[.int .i64 (xa - xb)] 3)
      exact (hc2.grown hgrow (own_ne_cells (hrow.alloc (.cells #[.int .i64 (xa - xb)] 3)) hc2 (by decide))).far (by show _ ≠ w2.heap.size; omega) _
    · rw [List.length_append, HSN.out, is_append]
      exact hr2'
  case done =>
    rintro D ys W hD rfl ⟨⟨v, hv, hrow, _⟩, hB⟩ hKD
    have hlen : (prwD ys).length = ys.length := prwD_len ys
    have hrd : IsRow W W.heap.size v (prwD ys) := IsRow.of_own (by rw [hlen]; exact hrow)
    obtain ⟨A, c, rfl, k1, k2, k3⟩ := hrd
    rw [hlen] at k1 k3 hv hrow
    have hcv := hv.cell
    have hrd2 : IsRow W W.heap.size (.slice A (prwD ys).length c) (prwD ys) := ⟨A, c, rfl, by rw [hlen]; exact k1, k2, by rw [hlen]; exact k3⟩
    have HRS := Lib.hid (rowResult_yes A c (prwD ys) W hrd2 hd)
    rw [hlen] at HRS hrd2
    have HOW := Lib.hid hrow
    gi_wp2_with (refine ⟨trivial, ?_⟩; gi_at_call 115; refine (callsIn_wide.2 HRS.out).mono ?_; rintro e w4 ⟨rfl, hb4⟩)
    have hK4 : w4.heap[D]? = some (.deferred (some [])) := (hb4.block D (Array.getElem?_eq_some_iff.1 hKD).1).trans hKD
    refine ⟨by simp, .inl ⟨_, _, rfl, run_takeDeferred hK4, ?_⟩⟩
    have hb1w := HB1.out
    have hbW := hb1w.trans ((hB.trans (hb4.mono hB.size)).mono hb1w.size)
    have hbp := belowK_b (w := w) (Nat.le_refl _) w4 D (.deferred (some [])) (.deferred Option.none) (by have := hb1w.size; omega) hK4 rfl rfl
    have hr4 : ORow w4 (.slice A ys.length c) (prwD ys) := ORow.of_own (by rw [hlen]; exact own_below HOW.out hb4)
    exact ⟨.tuple #[.slice A ys.length c, .int .i64 0], by simp [results, Tryz.results86, go_sem], ⟨A, c, rfl, own_put hr4 hK4⟩, hbW.trans hbp⟩
  case stop =>
    rintro D c pre W _ _ h _
    exact h.elim

/-- The difference of rows. -/
def subR (x y : List Int) : List Int := (x.zip y).map fun z => z.1 - z.2
theorem subR_len {x y : List Int} (h : x.length = y.length) : (subR x y).length = x.length := by unfold subR; rw [List.length_map, List.length_zip]; omega

theorem chk_bd {x : List Int} (h : rowChk x = 0) : x.length ≤ 64 ∧ ∀ z ∈ x, z.natAbs ≤ 1000000000 := by
  unfold rowChk at h
  split at h
  · cases h
  · rename_i hn
    rw [not_or] at hn
    refine ⟨by omega, fun z hz => ?_⟩
    have h2 := hn.2
    rw [Bool.not_eq_true, List.any_eq_false] at h2
    have h3 := h2 z hz
    unfold fitsB at h3
    simp at h3
    omega

theorem rowSub_any (xv yv : Value) (x y : List Int) (w : World) (hl : x.length = y.length)
    (hx : IsRow w w.heap.size xv x) (hy : IsRow w w.heap.size yv y) (hd : rowChk (subR x y) = 0) (h1 : rowChk x = 0) (h2 : rowChk y = 0) :
    Calls Tryz.prog 86 #[xv, yv] w fun e w' => (∃ A c, e = .returned (.tuple #[.slice A x.length c, .int .i64 0]) ∧ ORow w' (.slice A x.length c) (subR x y)) ∧ Below w.heap.size w w' := by
  obtain ⟨b1, b2⟩ := chk_bd h1
  have b3 := (chk_bd h2).2
  have hz : ∃ zs : List Prw, prw1 zs = x ∧ prw2 zs = y ∧ prwD zs = subR x y ∧ zs.length = x.length := by
    clear hx hy hd h1 h2 b1
    induction x generalizing y with
    | nil =>
      cases y with
      | nil => exact ⟨[], rfl, rfl, rfl, rfl⟩
      | cons => cases hl
    | cons a x ih =>
      cases y with
      | nil => cases hl
      | cons b y =>
        obtain ⟨zs, k1, k2, k3, k4⟩ := ih y (by simpa using hl) (fun z hz => b2 z (List.mem_cons_of_mem _ hz)) (fun z hz => b3 z (List.mem_cons_of_mem _ hz))
        refine ⟨⟨(a, b), b2 a List.mem_cons_self, b3 b List.mem_cons_self⟩ :: zs, ?_, ?_, ?_, by simp [k4]⟩
        · exact congrArg (a :: ·) k1
        · exact congrArg (b :: ·) k2
        · unfold subR at k3 ⊢; rw [List.zip_cons_cons, List.map_cons]; exact congrArg ((a - b) :: ·) k3
  obtain ⟨zs, k1, k2, k3, k4⟩ := hz
  have h := rowSub_prw xv yv zs w (by omega) (by rw [k1]; exact hx) (by rw [k2]; exact hy) (by rw [k3]; exact hd) (by rw [k1]; exact h1) (by rw [k2]; exact h2)
  rw [k3, k4] at h
  exact h

end Go.Proofs.YtcfkclafpbaagaaGreatDoor
