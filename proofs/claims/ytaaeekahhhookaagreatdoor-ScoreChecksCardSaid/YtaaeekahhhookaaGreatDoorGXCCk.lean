import Derived.Test.YtaaeekahhhookaaGreatDoorGTACk
import Derived.Test.YtaaeekahhhookaaGreatDoorGTCMCk
import Derived.Test.YtaaeekahhhookaaGreatDoorSayMCk
import Derived.Test.YtaaeekahhhookaaGreatDoorGXAMCk
namespace Go.Proofs.YtaaeekahhhookaaGreatDoor
open Go.RowKit Go.Lib
set_option maxRecDepth 100000 in
set_option maxHeartbeats 2000000 in
theorem fAdd_one (an bn : Int) (w : World) (hS : Std w) (h1 : (itoa an).length ≤ 9) (h3 : (itoa bn).length ≤ 9) :
  Calls Tryz.prog 102 #[.agg #[.string ⟨(itoa an).toArray⟩, .string ⟨#[49]⟩], .agg #[.string ⟨(itoa bn).toArray⟩, .string ⟨#[49]⟩]] w fun e w' => e = .returned (.agg #[.string ⟨(itoa (an + bn)).toArray⟩, .string ⟨#[49]⟩]) ∧ Below w.heap.size w w' := by
 have HA := Lib.hid (fun W hW => whAdd_any an bn W hW (by omega) (by omega))
 have hb0 : Below w.heap.size w (((w.alloc (.cells #[.string ⟨(itoa an).toArray⟩, .string ⟨#[49]⟩] 51)).alloc (.cells #[.string ⟨(itoa bn).toArray⟩, .string ⟨#[49]⟩] 51)).alloc (.cells #[.string ⟨#[]⟩, .string ⟨#[]⟩] 51)) := (((Below.refl _ _).alloc (Nat.le_refl _) _).alloc (by simp) _).alloc (by simp; omega) _
 have hC3 := Cells.new ((w.alloc (.cells #[.string ⟨(itoa an).toArray⟩, .string ⟨#[49]⟩] 51)).alloc (.cells #[.string ⟨(itoa bn).toArray⟩, .string ⟨#[49]⟩] 51)) 51 #[.string ⟨#[]⟩, .string ⟨#[]⟩]
 simp only [World.size_alloc] at hC3
 have HS := Lib.hid hS
 have HC3 := Lib.hid hC3
 have HB0 := Lib.hid hb0
 clear h1 h3 hS hb0 hC3
 generalize itoa (an + bn) = r at *
 generalize itoa an = la at *
 generalize itoa bn = lb at *
 go_enter Tryz.func102, Tryz.ntmps102
 go_wp2_with fail
 refine (HA.out _ (HS.out.below HB0.out (Nat.le_refl _))).mono ?_
 rintro e w3 ⟨rfl, hb3⟩
 have hc3 := HC3.out.below hb3 HC3.out.lt
 have z0 := hc3.cell 0
 have z1 := hc3.cell 1
 have y0 := hc3.free 0
 have y1 := hc3.free 1
 simp at z0 z1
 have HB3 := Lib.hid (HB0.out.trans (hb3.mono HB0.out.size))
 clear hb3 hc3
 go_wp2_with fail
 refine bodyPost_ret (v := .agg #[.string ⟨r.toArray⟩, .string ⟨#[49]⟩]) (by simp (maxDischargeDepth := 10) [results, Tryz.results102, go_sem, z0, z1]) rfl ⟨rfl, ?_⟩
 exact (HB3.out.setCell (by simp; omega) _).setCell (by simp; omega) _
set_option maxRecDepth 100000 in
set_option maxHeartbeats 2000000 in
theorem fAdd_two (an ad bn bd : Int) (w : World) (hS : Std w) (h1 : (itoa an).length ≤ 9) (h2 : (itoa ad).length ≤ 9) (h3 : (itoa bn).length ≤ 9) (h4 : (itoa bd).length ≤ 9) (ha : 0 < ad) (hb : 0 < bd) (hne : ((itoa ad == [49]) && (itoa bd == [49])) = false) :
  Calls Tryz.prog 102 #[.agg #[.string ⟨(itoa an).toArray⟩, .string ⟨(itoa ad).toArray⟩], .agg #[.string ⟨(itoa bn).toArray⟩, .string ⟨(itoa bd).toArray⟩]] w fun e w' => e = .returned (.agg #[.string ⟨(itoa (lowN (an * bd + bn * ad) (ad * bd))).toArray⟩, .string ⟨(itoa (lowD (an * bd + bn * ad) (ad * bd))).toArray⟩]) ∧ Below w.heap.size w w' := by
 have HA := Lib.hid (fun W => fBoth_yes an ad W h1 h2)
 have HB := Lib.hid (fun W => fBoth_yes bn bd W h3 h4)
 have p1 := small_mul h1 h4
 have p2 := small_mul h3 h2
 have p3 := small_mul h2 h4
 have HO := Lib.hid (fun W hS => fOf_any (an * bd + bn * ad) (ad * bd) W hS (by omega) (Int.mul_pos ha hb) (by omega))
 have hw1 : IntKind.i64.wrap (an * bd) = an * bd := IntWalk.i64_in _ (by omega)
 have hw2 : IntKind.i64.wrap (bn * ad) = bn * ad := IntWalk.i64_in _ (by omega)
 have hw3 : IntKind.i64.wrap (an * bd + bn * ad) = an * bd + bn * ad := IntWalk.i64_in _ (by omega)
 have hw4 : IntKind.i64.wrap (ad * bd) = ad * bd := IntWalk.i64_in _ (by omega)
 have hb0 : Below w.heap.size w (((w.alloc (.cells #[.string ⟨(itoa an).toArray⟩, .string ⟨(itoa ad).toArray⟩] 51)).alloc (.cells #[.string ⟨(itoa bn).toArray⟩, .string ⟨(itoa bd).toArray⟩] 51)).alloc (.cells #[.string ⟨#[]⟩, .string ⟨#[]⟩] 51)) := (((Below.refl _ _).alloc (Nat.le_refl _) _).alloc (by simp) _).alloc (by simp; omega) _
 have hC2 := (Cells.new (w.alloc (.cells #[.string ⟨(itoa an).toArray⟩, .string ⟨(itoa ad).toArray⟩] 51)) 51 #[.string ⟨(itoa bn).toArray⟩, .string ⟨(itoa bd).toArray⟩]).alloc (.cells #[.string ⟨#[]⟩, .string ⟨#[]⟩] 51)
 simp only [World.size_alloc] at hC2
 have hC3 := Cells.new ((w.alloc (.cells #[.string ⟨(itoa an).toArray⟩, .string ⟨(itoa ad).toArray⟩] 51)).alloc (.cells #[.string ⟨(itoa bn).toArray⟩, .string ⟨(itoa bd).toArray⟩] 51)) 51 #[.string ⟨#[]⟩, .string ⟨#[]⟩]
 simp only [World.size_alloc] at hC3
 have HS := Lib.hid hS
 have HC2 := Lib.hid hC2
 have HC3 := Lib.hid hC3
 have HB0 := Lib.hid hb0
 clear h1 h2 h3 h4 ha hb p1 p2 p3 hS hb0 hC2 hC3
 generalize lowN (an * bd + bn * ad) (ad * bd) = ln at *
 generalize lowD (an * bd + bn * ad) (ad * bd) = ld at *
 cases hA : (itoa ad == [49]) with
 | true =>
   have hB : (itoa bd == [49]) = false := by rw [hA] at hne; simpa using hne
   clear hne
   go_enter Tryz.func102, Tryz.ntmps102
   go_wp2_with fail
   refine (HA.out _).mono ?_
   rintro e w1 ⟨rfl, hb1⟩
   have hc2 := HC2.out.below hb1 HC2.out.lt
   have q0 := hc2.cell 0
   have q1 := hc2.cell 1
   simp at q0 q1
   have HC2b := Lib.hid hc2
   have HC3b := Lib.hid (HC3.out.below hb1 HC3.out.lt)
   have HB1 := Lib.hid (HB0.out.trans (hb1.mono HB0.out.size))
   clear hb1 hc2 HC2 HC3 HB0
   go_wp2_with fail
   refine (HB.out _).mono ?_
   rintro e w2 ⟨rfl, hb2⟩
   have HC3c := Lib.hid (HC3b.out.below hb2 HC3b.out.lt)
   have HB2 := Lib.hid (HB1.out.trans (hb2.mono HB1.out.size))
   clear hb2 HC2b HC3b HB1 q0 q1
   go_wp2_with fail
   refine (HO.out _ (HS.out.below HB2.out (Nat.le_refl _))).mono ?_
   rintro e w3 ⟨rfl, hb3⟩
   have hc3 := HC3c.out.below hb3 HC3c.out.lt
   have z0 := hc3.cell 0
   have z1 := hc3.cell 1
   have y0 := hc3.free 0
   have y1 := hc3.free 1
   simp at z0 z1
   have HB3 := Lib.hid (HB2.out.trans (hb3.mono HB2.out.size))
   clear hb3 hc3
   go_wp2_with fail
   refine bodyPost_ret (v := .agg #[.string ⟨(itoa ln).toArray⟩, .string ⟨(itoa ld).toArray⟩]) (by simp (maxDischargeDepth := 10) [results, Tryz.results102, go_sem, z0, z1]) rfl ⟨rfl, ?_⟩
   exact (HB3.out.setCell (by simp; omega) _).setCell (by simp; omega) _
 | false =>
   clear hne
   go_enter Tryz.func102, Tryz.ntmps102
   go_wp2_with fail
   refine (HA.out _).mono ?_
   rintro e w1 ⟨rfl, hb1⟩
   have hc2 := HC2.out.below hb1 HC2.out.lt
   have q0 := hc2.cell 0
   have q1 := hc2.cell 1
   simp at q0 q1
   have HC2b := Lib.hid hc2
   have HC3b := Lib.hid (HC3.out.below hb1 HC3.out.lt)
   have HB1 := Lib.hid (HB0.out.trans (hb1.mono HB0.out.size))
   clear hb1 hc2 HC2 HC3 HB0
   go_wp2_with fail
   refine (HB.out _).mono ?_
   rintro e w2 ⟨rfl, hb2⟩
   have HC3c := Lib.hid (HC3b.out.below hb2 HC3b.out.lt)
   have HB2 := Lib.hid (HB1.out.trans (hb2.mono HB1.out.size))
   clear hb2 HC2b HC3b HB1 q0 q1
   go_wp2_with fail
   refine (HO.out _ (HS.out.below HB2.out (Nat.le_refl _))).mono ?_
   rintro e w3 ⟨rfl, hb3⟩
   have hc3 := HC3c.out.below hb3 HC3c.out.lt
   have z0 := hc3.cell 0
   have z1 := hc3.cell 1
   have y0 := hc3.free 0
   have y1 := hc3.free 1
   simp at z0 z1
   have HB3 := Lib.hid (HB2.out.trans (hb3.mono HB2.out.size))
   clear hb3 hc3
   go_wp2_with fail
   refine bodyPost_ret (v := .agg #[.string ⟨(itoa ln).toArray⟩, .string ⟨(itoa ld).toArray⟩]) (by simp (maxDischargeDepth := 10) [results, Tryz.results102, go_sem, z0, z1]) rfl ⟨rfl, ?_⟩
   exact (HB3.out.setCell (by simp; omega) _).setCell (by simp; omega) _
theorem fAdd_nums (an ad bn bd : Int) (w : World) (hS : Std w) (h1 : (itoa an).length ≤ 9) (h2 : (itoa ad).length ≤ 9) (h3 : (itoa bn).length ≤ 9) (h4 : (itoa bd).length ≤ 9) (ha : 0 < ad) (hb : 0 < bd) :
  Calls Tryz.prog 102 #[.agg #[.string ⟨(itoa an).toArray⟩, .string ⟨(itoa ad).toArray⟩], .agg #[.string ⟨(itoa bn).toArray⟩, .string ⟨(itoa bd).toArray⟩]] w fun e w' => e = .returned (.agg #[.string ⟨(itoa (lowN (an * bd + bn * ad) (ad * bd))).toArray⟩, .string ⟨(itoa (lowD (an * bd + bn * ad) (ad * bd))).toArray⟩]) ∧ Below w.heap.size w w' := by
 cases h : ((itoa ad == [49]) && (itoa bd == [49])) with
 | false => exact fAdd_two an ad bn bd w hS h1 h2 h3 h4 ha hb h
 | true =>
   simp only [Bool.and_eq_true, beq_iff_eq] at h
   have e1 : ad = 1 := itoa_inj (h.1.trans itoa_one.symm)
   have e2 : bd = 1 := itoa_inj (h.2.trans itoa_one.symm)
   subst e1 e2
   have hh := fAdd_one an bn w hS h1 h3
   rw [itoa_one, Int.mul_one, Int.mul_one, Int.mul_one, (low_one (an + bn)).1, (low_one (an + bn)).2, itoa_one]
   exact hh
def cmpQ (an ad bn bd : Int) : Int := cmpZ (an * bd) (bn * ad)
theorem cmpQ_same {an bn d : Int} (hd : 0 < d) : cmpQ an d bn d = cmpZ an bn := by
 unfold cmpQ cmpZ
 have h1 : an * d < bn * d ↔ an < bn := ⟨fun h => Int.lt_of_mul_lt_mul_right h (by omega), fun h => Int.mul_lt_mul_of_pos_right h hd⟩
 have h2 : an * d = bn * d ↔ an = bn := ⟨fun h => Int.eq_of_mul_eq_mul_right (by omega) h, fun h => by rw [h]⟩
 simp only [h1, h2]
set_option maxRecDepth 100000 in
set_option maxHeartbeats 2000000 in
theorem fCmp_short (an ad bn bd : Int) (w : World) (h1 : (itoa an).length ≤ 9) (h2 : (itoa ad).length ≤ 9) (h3 : (itoa bn).length ≤ 9) (h4 : (itoa bd).length ≤ 9) :
  Calls Tryz.prog 70 #[.agg #[.string ⟨(itoa an).toArray⟩, .string ⟨(itoa ad).toArray⟩], .agg #[.string ⟨(itoa bn).toArray⟩, .string ⟨(itoa bd).toArray⟩]] w fun e w' => e = .returned (.int .i64 (cmpQ an ad bn bd)) ∧ Below w.heap.size w w' := by
 have HA := Lib.hid (fun W => fBoth_yes an ad W h1 h2)
 have HB := Lib.hid (fun W => fBoth_yes bn bd W h3 h4)
 have p1 := small_mul h1 h4
 have p2 := small_mul h3 h2
 have hw1 : IntKind.i64.wrap (an * bd) = an * bd := IntWalk.i64_in _ (by omega)
 have hw2 : IntKind.i64.wrap (bn * ad) = bn * ad := IntWalk.i64_in _ (by omega)
 have hb0 : Below w.heap.size w ((w.alloc (.cells #[.string ⟨(itoa an).toArray⟩, .string ⟨(itoa ad).toArray⟩] 51)).alloc (.cells #[.string ⟨(itoa bn).toArray⟩, .string ⟨(itoa bd).toArray⟩] 51)) := ((Below.refl _ _).alloc (Nat.le_refl _) _).alloc (by simp) _
 have hC2 := Cells.new (w.alloc (.cells #[.string ⟨(itoa an).toArray⟩, .string ⟨(itoa ad).toArray⟩] 51)) 51 #[.string ⟨(itoa bn).toArray⟩, .string ⟨(itoa bd).toArray⟩]
 simp only [World.size_alloc] at hC2
 have HC2 := Lib.hid hC2
 have HB0 := Lib.hid hb0
 have hcq : cmpQ an ad bn bd = if an * bd < bn * ad then -1 else if an * bd = bn * ad then 0 else 1 := rfl
 have HCQ : Box (cmpQ an ad bn bd = if an * bd < bn * ad then -1 else if an * bd = bn * ad then 0 else 1) := ⟨hcq⟩
 clear h1 h2 h3 h4 p1 p2 hb0 hC2 hcq
 generalize cmpQ an ad bn bd = r at *
 by_cases hlt : an * bd < bn * ad
 ·have HE : Box (r = -1) := ⟨by rw [HCQ.out, if_pos hlt]⟩
  go_enter Tryz.func70, Tryz.ntmps70
  go_wp2_with fail
  refine (HA.out _).mono ?_
  rintro e w1 ⟨rfl, hb1⟩
  have hc2 := HC2.out.below hb1 HC2.out.lt
  have q0 := hc2.cell 0
  have q1 := hc2.cell 1
  simp at q0 q1
  have HB1 := Lib.hid (HB0.out.trans (hb1.mono HB0.out.size))
  clear hb1 hc2 HC2 HB0
  go_wp2_with fail
  refine (HB.out _).mono ?_
  rintro e w2 ⟨rfl, hb2⟩
  have HB2 := Lib.hid (HB1.out.trans (hb2.mono HB1.out.size))
  clear hb2 HB1 q0 q1
  go_wp2_with fail
  go_ret
  exact ⟨ret_int HE.out.symm, HB2.out⟩
 ·by_cases hgt : bn * ad < an * bd
  ·have HE : Box (r = 1) := ⟨by rw [HCQ.out, if_neg hlt, if_neg (by omega)]⟩
   go_enter Tryz.func70, Tryz.ntmps70
   go_wp2_with fail
   refine (HA.out _).mono ?_
   rintro e w1 ⟨rfl, hb1⟩
   have hc2 := HC2.out.below hb1 HC2.out.lt
   have q0 := hc2.cell 0
   have q1 := hc2.cell 1
   simp at q0 q1
   have HB1 := Lib.hid (HB0.out.trans (hb1.mono HB0.out.size))
   clear hb1 hc2 HC2 HB0
   go_wp2_with fail
   refine (HB.out _).mono ?_
   rintro e w2 ⟨rfl, hb2⟩
   have HB2 := Lib.hid (HB1.out.trans (hb2.mono HB1.out.size))
   clear hb2 HB1 q0 q1
   go_wp2_with fail
   go_ret
   exact ⟨ret_int HE.out.symm, HB2.out⟩
  ·have HE : Box (r = 0) := ⟨by rw [HCQ.out, if_neg hlt, if_pos (by omega)]⟩
   go_enter Tryz.func70, Tryz.ntmps70
   go_wp2_with fail
   refine (HA.out _).mono ?_
   rintro e w1 ⟨rfl, hb1⟩
   have hc2 := HC2.out.below hb1 HC2.out.lt
   have q0 := hc2.cell 0
   have q1 := hc2.cell 1
   simp at q0 q1
   have HB1 := Lib.hid (HB0.out.trans (hb1.mono HB0.out.size))
   clear hb1 hc2 HC2 HB0
   go_wp2_with fail
   refine (HB.out _).mono ?_
   rintro e w2 ⟨rfl, hb2⟩
   have HB2 := Lib.hid (HB1.out.trans (hb2.mono HB1.out.size))
   clear hb2 HB1 q0 q1
   go_wp2_with fail
   go_ret
   exact ⟨ret_int HE.out.symm, HB2.out⟩
theorem twoRats (an ad bn bd : Value) (w w1 : World) (h : Below (w.heap.size + 1 + 1) ((w.alloc (.cells #[an, ad] 51)).alloc (.cells #[bn, bd] 51)) w1) :
  (w1.cell? ⟨w.heap.size, 0, Option.none⟩ = some an ∧ w1.cell? ⟨w.heap.size, 1, Option.none⟩ = some ad) ∧ (w1.cell? ⟨w.heap.size + 1, 0, Option.none⟩ = some bn ∧ w1.cell? ⟨w.heap.size + 1, 1, Option.none⟩ = some bd) := by
 have c1 := ((Cells.new w 51 #[an, ad]).alloc (.cells #[bn, bd] 51)).below h (by omega)
 have c2 := Cells.new (w.alloc (.cells #[an, ad] 51)) 51 #[bn, bd]
 rw [World.size_alloc] at c2
 have c3 := c2.below h (by omega)
 exact ⟨⟨c1.cell 0, c1.cell 1⟩, c3.cell 0, c3.cell 1⟩
def t12n (n : Nat) : List UInt8 := itoa (lowN (n : Int) 12)
def t12d (n : Nat) : List UInt8 := itoa (lowD (n : Int) 12)
def t12 (n : Nat) : List UInt8 × List UInt8 := (t12n n, t12d n)
theorem t12_zero : t12 0 = ([48], [49]) := by decide +kernel
theorem low_mul_eq {n d n2 d2 : Int} (hd : 0 < d) (hd2 : 0 < d2) (h : n * d2 = n2 * d) : lowN n d = lowN n2 d2 ∧ lowD n d = lowD n2 d2 := by
 have e1 := low_rat (n := n) hd
 have e2 := low_rat (n := n2) hd2
 have : mkRat n d.toNat = mkRat n2 d2.toNat := by
  rw [Rat.mkRat_eq_iff (by omega) (by omega)]
  rw [show ((d2.toNat : Nat) : Int) = d2 by omega, show ((d.toNat : Nat) : Int) = d by omega]
  exact h
 rw [e1.1, e1.2, e2.1, e2.2, this]
 exact ⟨rfl, rfl⟩
theorem low_cross {n d : Int} (hd : 0 < d) : lowN n d * d = n * lowD n d := by
 have hg : (0 : Int) < (Nat.gcd n.natAbs d.natAbs : Nat) := by
  have : 0 < Nat.gcd n.natAbs d.natAbs := Nat.gcd_pos_of_pos_right _ (by omega)
  omega
 obtain ⟨a, ha⟩ : ((Nat.gcd n.natAbs d.natAbs : Nat) : Int) ∣ n := Int.ofNat_dvd_left.2 (Nat.gcd_dvd_left _ _)
 obtain ⟨b, hb⟩ : ((Nat.gcd n.natAbs d.natAbs : Nat) : Int) ∣ d := Int.ofNat_dvd_left.2 (Nat.gcd_dvd_right _ _)
 have hN : lowN n d = a := Int.ediv_eq_of_eq_mul_right (by omega) ha
 have hD : lowD n d = b := Int.ediv_eq_of_eq_mul_right (by omega) hb
 rw [hN, hD]
 generalize ((Nat.gcd n.natAbs d.natAbs : Nat) : Int) = g at *
 rw [ha, hb]
 rw [← Int.mul_assoc, Int.mul_comm a g, Int.mul_right_comm]
theorem cmpZ_scale {x y k : Int} (hk : 0 < k) : cmpZ (x * k) (y * k) = cmpZ x y := by
 have := cmpQ_same (an := x) (bn := y) hk
 unfold cmpQ at this
 exact this
theorem cmpQ_low {n d n2 d2 : Int} (hd : 0 < d) (hd2 : 0 < d2) : cmpQ (lowN n d) (lowD n d) (lowN n2 d2) (lowD n2 d2) = cmpQ n d n2 d2 := by
 have h1 := (low_pos (n := n) hd).1
 have h2 := (low_pos (n := n2) hd2).1
 have c1 := low_cross (n := n) hd
 have c2 := low_cross (n := n2) hd2
 generalize lowN n d = a at *
 generalize lowD n d = b at *
 generalize lowN n2 d2 = a2 at *
 generalize lowD n2 d2 = b2 at *
 unfold cmpQ
 rw [← cmpZ_scale (x := a * b2) (y := a2 * b) (k := d * d2) (Int.mul_pos hd hd2), ← cmpZ_scale (x := n * d2) (y := n2 * d) (k := b * b2) (Int.mul_pos h1 h2)]
 have e1 : a * b2 * (d * d2) = n * d2 * (b * b2) := by
  calc a * b2 * (d * d2) = (a * d) * (b2 * d2) := by simp only [Int.mul_comm, Int.mul_left_comm]
   _ = (n * b) * (b2 * d2) := by rw [c1]
   _ = n * d2 * (b * b2) := by simp only [Int.mul_comm, Int.mul_left_comm]
 have e2 : a2 * b * (d * d2) = n2 * d * (b * b2) := by
  calc a2 * b * (d * d2) = (a2 * d2) * (b * d) := by simp only [Int.mul_comm, Int.mul_left_comm]
   _ = (n2 * b2) * (b * d) := by rw [c2]
   _ = n2 * d * (b * b2) := by simp only [Int.mul_comm, Int.mul_left_comm]
 rw [e1, e2]
theorem cmp_t12 (a b : Nat) : cmpQ (lowN a 12) (lowD a 12) (lowN b 12) (lowD b 12) = cmpN a b := by
 rw [cmpQ_low (by decide) (by decide)]
 unfold cmpQ
 rw [cmpZ_scale (by decide), cmpZ_nat]
theorem t12_inj {a b : Nat} (h : t12 a = t12 b) : a = b := by
 unfold t12 t12n t12d at h
 injection h with h1 h2
 have e1 := itoa_inj h1
 have e2 := itoa_inj h2
 have h3 := cmp_t12 a b
 rw [e1, e2] at h3
 unfold cmpQ cmpZ at h3
 rw [if_neg (by omega), if_pos rfl] at h3
 unfold cmpN at h3
 split at h3
 ·exact absurd h3 (by decide)
 ·split at h3
  ·assumption
  ·exact absurd h3 (by decide)
theorem t12_add (a b : Nat) : lowN (lowN a 12 * lowD b 12 + lowN b 12 * lowD a 12) (lowD a 12 * lowD b 12) = lowN ((a + b : Nat) : Int) 12 ∧ lowD (lowN a 12 * lowD b 12 + lowN b 12 * lowD a 12) (lowD a 12 * lowD b 12) = lowD ((a + b : Nat) : Int) 12 := by
 have h1 := (low_pos (n := a) (d := 12) (by decide)).1
 have h2 := (low_pos (n := b) (d := 12) (by decide)).1
 have c1 := low_cross (n := a) (d := 12) (by decide)
 have c2 := low_cross (n := b) (d := 12) (by decide)
 generalize lowN (a : Int) 12 = x at *
 generalize lowD (a : Int) 12 = y at *
 generalize lowN (b : Int) 12 = x2 at *
 generalize lowD (b : Int) 12 = y2 at *
 refine low_mul_eq (Int.mul_pos h1 h2) (by decide) ?_
 rw [Int.add_mul]
 calc x * y2 * 12 + x2 * y * 12 = (x * 12) * y2 + (x2 * 12) * y := by rw [Int.mul_right_comm, Int.mul_right_comm x2]
  _ = (a * y) * y2 + (b * y2) * y := by rw [c1, c2]
  _ = ((a + b : Nat) : Int) * (y * y2) := by rw [Int.natCast_add, Int.add_mul, Int.mul_assoc, Int.mul_assoc, Int.mul_comm y2 y]
theorem t12_len {n : Nat} (h : n ≤ 1000000) : (t12n n).length ≤ 9 ∧ (t12d n).length ≤ 9 := by
 have h1 := (low_bd (n := (n : Int)) (d := 12)).1
 have h2 := (low_bd (n := (n : Int)) (d := 12)).2
 unfold t12n t12d
 exact ⟨Nat.le_trans (small_len (z := lowN (n : Int) 12) (by omega)).1 (by decide), Nat.le_trans (small_len (z := lowD (n : Int) 12) (by omega)).1 (by decide)⟩
theorem tAdd_any (a b : Nat) (w : World) (hS : Std w) (ha : a ≤ 1000000) (hb : b ≤ 1000000) :
  Calls Tryz.prog 102 #[.agg #[.string ⟨(t12n a).toArray⟩, .string ⟨(t12d a).toArray⟩], .agg #[.string ⟨(t12n b).toArray⟩, .string ⟨(t12d b).toArray⟩]] w fun e w' => e = .returned (.agg #[.string ⟨(t12n (a + b)).toArray⟩, .string ⟨(t12d (a + b)).toArray⟩]) ∧ Below w.heap.size w w' := by
 have h1 := t12_len ha
 have h2 := t12_len hb
 have h := fAdd_nums (lowN a 12) (lowD a 12) (lowN b 12) (lowD b 12) w hS h1.1 h1.2 h2.1 h2.2 (low_pos (by decide)).1 (low_pos (by decide)).1
 rw [(t12_add a b).1, (t12_add a b).2] at h
 exact h
theorem tCmp_any (a b : Nat) (w : World) (ha : a ≤ 1000000) (hb : b ≤ 1000000) :
  Calls Tryz.prog 70 #[.agg #[.string ⟨(t12n a).toArray⟩, .string ⟨(t12d a).toArray⟩], .agg #[.string ⟨(t12n b).toArray⟩, .string ⟨(t12d b).toArray⟩]] w fun e w' => e = .returned (.int .i64 (cmpN a b)) ∧ Below w.heap.size w w' := by
 have h1 := t12_len ha
 have h2 := t12_len hb
 have h := fCmp_short (lowN a 12) (lowD a 12) (lowN b 12) (lowD b 12) w h1.1 h1.2 h2.1 h2.2
 rw [cmp_t12] at h
 exact h
theorem Cells.cell2 {w : World} {g : Nat} {T : TypeId} {a b : Value} (h : Cells w g T [a, b]) : w.cell? ⟨g, 0, Option.none⟩ = some a ∧ w.cell? ⟨g, 1, Option.none⟩ = some b := ⟨h.cell 0, h.cell 1⟩
set_option maxRecDepth 100000 in
set_option maxHeartbeats 2000000 in
theorem tMax_any (a b : Nat) (w : World) (ha : a ≤ 1000000) (hb : b ≤ 1000000) :
  Calls Tryz.prog 65 #[.agg #[.string ⟨(t12n a).toArray⟩, .string ⟨(t12d a).toArray⟩], .agg #[.string ⟨(t12n b).toArray⟩, .string ⟨(t12d b).toArray⟩]] w fun e w' => e = .returned (.agg #[.string ⟨(t12n (max a b)).toArray⟩, .string ⟨(t12d (max a b)).toArray⟩]) ∧ Below w.heap.size w w' := by
 have HC := Lib.hid (fun W => tCmp_any b a W hb ha)
 have HT := Lib.hid (fun W h => twoRats (.string ⟨(t12n a).toArray⟩) (.string ⟨(t12d a).toArray⟩) (.string ⟨(t12n b).toArray⟩) (.string ⟨(t12d b).toArray⟩) w W h)
 have hb0 : Below w.heap.size w ((w.alloc (.cells #[.string ⟨(t12n a).toArray⟩, .string ⟨(t12d a).toArray⟩] 51)).alloc (.cells #[.string ⟨(t12n b).toArray⟩, .string ⟨(t12d b).toArray⟩] 51)) := ((Below.refl _ _).alloc (Nat.le_refl _) _).alloc (by simp) _
 have HB0 := Lib.hid (hb0.alloc (by simp; omega) (.cells #[.string ⟨#[]⟩, .string ⟨#[]⟩] 51))
 have hC3 := Cells.new ((w.alloc (.cells #[.string ⟨(t12n a).toArray⟩, .string ⟨(t12d a).toArray⟩] 51)).alloc (.cells #[.string ⟨(t12n b).toArray⟩, .string ⟨(t12d b).toArray⟩] 51)) 51 #[.string ⟨#[]⟩, .string ⟨#[]⟩]
 simp only [World.size_alloc] at hC3
 have HC3 := Lib.hid hC3
 clear hC3
 by_cases hlt : a < b
 ·have HE : Box (max a b = b) := ⟨by omega⟩
  have HZ : Box (cmpN b a = 1) := ⟨by unfold cmpN; rw [if_neg (by omega), if_neg (by omega)]⟩
  rw [HE.out]
  rw [HZ.out] at HC
  clear hb0 ha hb hlt HE HZ
  generalize t12n a = an at *
  generalize t12d a = ad at *
  generalize t12n b = bn at *
  generalize t12d b = bd at *
  go_enter Tryz.func65, Tryz.ntmps65
  go_wp2_with fail
  refine (HC.out _).mono ?_
  rintro e w1 ⟨rfl, hb1⟩
  rw [World.size_alloc, World.size_alloc, World.size_alloc] at hb1
  have hb12 := ((Below.refl (w.heap.size + 1 + 1) ((w.alloc (.cells #[.string ⟨an.toArray⟩, .string ⟨ad.toArray⟩] 51)).alloc (.cells #[.string ⟨bn.toArray⟩, .string ⟨bd.toArray⟩] 51))).alloc (by simp) (.cells #[.string ⟨#[]⟩, .string ⟨#[]⟩] 51)).trans (hb1.mono (by omega))
  obtain ⟨⟨q0, q1⟩, q2, q3⟩ := HT.out _ hb12
  have hc3 := HC3.out.below hb1 (by omega)
  obtain ⟨z0, z1⟩ := hc3.cell2
  have y0 := hc3.free 0
  have y1 := hc3.free 1
  have HB1 := Lib.hid (HB0.out.trans (hb1.mono (by omega)))
  clear hb1 hb12 hc3
  go_wp2_with fail
  refine bodyPost_ret (v := .agg #[.string ⟨bn.toArray⟩, .string ⟨bd.toArray⟩]) (by simp (maxDischargeDepth := 10) [results, Tryz.results65, go_sem, z0, z1]) rfl ⟨rfl, ?_⟩
  exact (HB1.out.setCell (by simp; omega) _).setCell (by simp; omega) _
 ·have HE : Box (max a b = a) := ⟨by omega⟩
  have hz : ¬ 0 < cmpN b a := by unfold cmpN; split; decide; split; decide; omega
  rw [HE.out]
  clear hb0 ha hb hlt HE
  generalize cmpN b a = z at *
  generalize t12n a = an at *
  generalize t12d a = ad at *
  generalize t12n b = bn at *
  generalize t12d b = bd at *
  go_enter Tryz.func65, Tryz.ntmps65
  go_wp2_with fail
  refine (HC.out _).mono ?_
  rintro e w1 ⟨rfl, hb1⟩
  rw [World.size_alloc, World.size_alloc, World.size_alloc] at hb1
  have hb12 := ((Below.refl (w.heap.size + 1 + 1) ((w.alloc (.cells #[.string ⟨an.toArray⟩, .string ⟨ad.toArray⟩] 51)).alloc (.cells #[.string ⟨bn.toArray⟩, .string ⟨bd.toArray⟩] 51))).alloc (by simp) (.cells #[.string ⟨#[]⟩, .string ⟨#[]⟩] 51)).trans (hb1.mono (by omega))
  obtain ⟨⟨q0, q1⟩, q2, q3⟩ := HT.out _ hb12
  have hc3 := HC3.out.below hb1 (by omega)
  obtain ⟨z0, z1⟩ := hc3.cell2
  have y0 := hc3.free 0
  have y1 := hc3.free 1
  have HB1 := Lib.hid (HB0.out.trans (hb1.mono (by omega)))
  clear hb1 hb12 hc3
  go_wp2_with fail
  refine bodyPost_ret (v := .agg #[.string ⟨an.toArray⟩, .string ⟨ad.toArray⟩]) (by simp (maxDischargeDepth := 10) [results, Tryz.results65, go_sem, z0, z1]) rfl ⟨rfl, ?_⟩
  exact (HB1.out.setCell (by simp; omega) _).setCell (by simp; omega) _
def TmQ (n : Nat) (cs : List Value) : Prop := cs = [.string ⟨(t12n n).toArray⟩, .string ⟨(t12d n).toArray⟩]
abbrev TmT (w : World) (B : Nat) (A : Option Addr) (l : List Nat) : Prop := LT 51 2 TmQ w B A l
def TmO (w : World) (base : Nat) (v : Value) (l : List Nat) : Prop := ∃ css, LO 51 2 TmQ w base v l css
def TsQ (w : World) (B : Nat) (l : List Nat) (cs : List Value) : Prop := ∃ A c, cs = [.slice A l.length c] ∧ l.length ≤ c ∧ c ≤ maxLen ∧ TmT w B A l
abbrev TsT (w : World) (B : Nat) (A : Option Addr) (ll : List (List Nat)) : Prop := LT 65 1 (TsQ w B) w B A ll
def SnQ (x : Nat × Nat) (cs : List Value) : Prop := cs = [.int .i64 x.1, .int .i64 x.2]
abbrev SnT (w : World) (B : Nat) (A : Option Addr) (l : List (Nat × Nat)) : Prop := LT 182 2 SnQ w B A l
def SnO (w : World) (base : Nat) (v : Value) (l : List (Nat × Nat)) : Prop := ∃ css, LO 182 2 SnQ w base v l css
def SlQ (w : World) (B : Nat) (x : Nat × Nat × List (Nat × Nat)) (cs : List Value) : Prop := ∃ A c, cs = [.string ⟨(t12n x.1).toArray⟩, .string ⟨(t12d x.1).toArray⟩, .string ⟨(t12n x.2.1).toArray⟩, .string ⟨(t12d x.2.1).toArray⟩, .slice A x.2.2.length c] ∧ x.2.2.length ≤ c ∧ c ≤ maxLen ∧ SnT w B A x.2.2
abbrev SlT (w : World) (B : Nat) (A : Option Addr) (l : List (Nat × Nat × List (Nat × Nat))) : Prop := LT 80 5 (SlQ w B) w B A l
def runs : Nat → List Nat → List Nat
 | a, [] => [a]
 | a, d :: r => a :: runs (a + d) r
theorem runs_len : ∀ (a : Nat) (ds : List Nat), (runs a ds).length = ds.length + 1
 | _, [] => rfl
 | a, d :: r => by rw [runs, List.length_cons, runs_len (a + d) r, List.length_cons]
theorem runs_snoc : ∀ (a : Nat) (ds : List Nat) (d : Nat), runs a (ds ++ [d]) = runs a ds ++ [a + ds.sum + d]
 | a, [], d => by simp [runs]
 | a, e :: r, d => by rw [List.cons_append, runs, runs_snoc (a + e) r d, runs, List.sum_cons, List.cons_append, Nat.add_assoc a e]
theorem runs_get : ∀ (a : Nat) (ds : List Nat) (k : Nat), k ≤ ds.length → (runs a ds)[k]? = some (a + (ds.take k).sum)
 | a, [], k, h => by obtain rfl : k = 0 := by simpa using h
                     simp [runs]
 | a, d :: r, 0, _ => by simp [runs]
 | a, d :: r, k + 1, h => by
   rw [runs, List.getElem?_cons_succ, runs_get (a + d) r k (by simpa using h), List.take_succ_cons, List.sum_cons, Nat.add_assoc]
def strt (ds : List Nat) : List Nat := runs 0 ds
def sndTo (f g : Nat → Bool) (i : Nat) (l : List Nat) : Nat → List (Nat × Nat)
 | 0 => []
 | k + 1 => sndTo f g i l k ++ (if f (l[k]?.getD 0) && g (l[k + 1]?.getD 0) then [(i, k)] else [])
def sndAll (f g : Nat → Bool) (all : List (List Nat)) : Nat → List (Nat × Nat)
 | 0 => []
 | i + 1 => sndAll f g all i ++ sndTo f g i (all[i]?.getD []) ((all[i]?.getD []).length - 1)
def snd (f g : Nat → Bool) (all : List (List Nat)) : List (Nat × Nat) := sndAll f g all all.length
def sndN (all : List (List Nat)) (t : Nat) : List (Nat × Nat) := snd (fun a => decide (a ≤ t)) (fun b => decide (t < b)) all
end Go.Proofs.YtaaeekahhhookaaGreatDoor
