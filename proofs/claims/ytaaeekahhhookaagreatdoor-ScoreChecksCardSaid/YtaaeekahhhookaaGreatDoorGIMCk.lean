import Derived.Test.YtaaeekahhhookaaGreatDoorGCCk
import Derived.Test.YtaaeekahhhookaaGreatDoorSayMCk
import Derived.Test.YtaaeekahhhookaaGreatDoorFSgMCk
namespace Go.Proofs.YtaaeekahhhookaaGreatDoor
open Go.RowKit Go.Lib
theorem ba_at (l : List UInt8) (k : Nat) : ∀ h, (⟨l.toArray⟩ : ByteArray)[k]'h = l[k]?.getD 0 := by
 intro h
 have hk : k < l.length := by simpa [ByteArray.size] using h
 rw [List.getElem?_eq_getElem hk]; rfl
theorem canon_good {l : List UInt8} (h : l.all digB = true) (h0 : l.length = 1 ∨ (1 < l.length ∧ (l[0]?.getD 0).toNat ≠ 48)) : canonB l = true := by
 unfold canonB headB
 rw [h, Bool.true_and]
 rcases h0 with h0 | ⟨h1, h2⟩
 ·rw [h0]; rfl
 ·simp [h1, h2]
theorem all_succ {l : List UInt8} {k : Nat} (hlt : k < l.length) : (l.take (k + 1)).all digB = ((l.take k).all digB && digB (l[k]?.getD 0)) := by
 rw [List.take_succ_eq_append_getElem hlt, List.all_append, List.getElem?_eq_getElem hlt]; simp
theorem trim_zeros : ∀ (l : List UInt8), l.all digB = true → (dval 0 l = 0 → Lib.trimLeftB l 48 = []) ∧ (0 < dval 0 l → Lib.trimLeftB l 48 = decDigits (dval 0 l))
 | [], _ => ⟨fun _ => rfl, fun h => absurd h (by rw [dval_nil]; omega)⟩
 | c :: t, h => by
   have hc : digB c = true := by have := List.all_eq_true.1 h c (by simp); exact this
   have ht : t.all digB = true := List.all_eq_true.2 fun x hx => List.all_eq_true.1 h x (by simp [hx])
   obtain ⟨i1, i2⟩ := trim_zeros t ht
   have hcd : 48 ≤ c.toNat ∧ c.toNat ≤ 57 := of_decide_eq_true hc
   by_cases h48 : c = 48
   ·subst h48
    have e : dval 0 (48 :: t) = dval 0 t := by rw [dval_cons, dgv_eq]; rfl
    rw [e, show Lib.trimLeftB (48 :: t) 48 = Lib.trimLeftB t 48 by unfold Lib.trimLeftB; rw [List.dropWhile_cons_of_pos (by decide)]]
    exact ⟨i1, i2⟩
   ·have e : Lib.trimLeftB (c :: t) 48 = c :: t := by unfold Lib.trimLeftB; rw [List.dropWhile_cons_of_neg (by simpa using h48)]
    have hne : c.toNat ≠ 48 := fun hh => h48 (UInt8.toNat_inj.1 hh)
    have hcb : canonB (c :: t) = true := by
     refine canon_good h ?_
     cases t with
     | nil => exact .inl rfl
     | cons _ _ => exact .inr ⟨by simp, hne⟩
    obtain ⟨n, hn⟩ := (canonB_iff _).1 hcb
    have hv : dval 0 (c :: t) = n := by rw [hn, dval_dec]
    have hn0 : 0 < n := by
     rcases Nat.eq_zero_or_pos n with h0 | h0
     ·subst h0
      rw [dec_small (by omega)] at hn
      injection hn with hn _
      exact absurd (by rw [hn]; rfl) hne
     ·exact h0
    rw [e, hv]
    exact ⟨fun h => by omega, fun _ => hn⟩
def digOut (l : List UInt8) : Value := if l ≠ [] ∧ l.all digB = true then .tuple #[.string ⟨(decDigits (dval 0 l)).toArray⟩, .bool true] else .tuple #[.string ⟨#[]⟩, .bool false]
set_option maxRecDepth 100000 in
set_option maxHeartbeats 1000000 in
theorem digits_any (l : List UInt8) (w : World) (hl : l.length ≤ 1000000) :
  Calls Tryz.prog 209 #[.string ⟨l.toArray⟩] w fun e w' => e = .returned (digOut l) ∧ Below w.heap.size w w' := by
 have HT := Lib.hid (fun W => trimZeros_any l W)
 have HZ := Lib.hid (fun h => trim_zeros l h)
 by_cases h0 : l = []
 ·subst h0
  rw [show digOut [] = .tuple #[.string ⟨#[]⟩, .bool false] from rfl]
  go_enter Tryz.func209, Tryz.ntmps209
  go_wp2
  go_ret2
  exact ⟨rfl, Below.refl _ _⟩
 ·have h0' : l.isEmpty = false := by cases l with | nil => exact absurd rfl h0 | cons _ _ => rfl
  have HY : Hid (l.all digB = true → digOut l = .tuple #[.string ⟨(decDigits (dval 0 l)).toArray⟩, .bool true]) := Lib.hid fun h => by unfold digOut; rw [if_pos ⟨h0, h⟩]
  have HN : Hid (l.all digB = false → digOut l = .tuple #[.string ⟨#[]⟩, .bool false]) := Lib.hid fun h => by unfold digOut; rw [if_neg (fun h' => by rw [h] at h'; cases h'.2)]
  generalize digOut l = out at *
  go_enter Tryz.func209, Tryz.ntmps209
  go_wp2
  go_loop [9] (fun i => ∃ k : Nat, k ≤ l.length ∧ i = .int .i64 k ∧ Box ((l.take k).all digB = true)) (fun i => l.length - (intOf i).toNat)
  case atStart => exact ⟨0, Nat.zero_le _, rfl, ⟨rfl⟩⟩
  case round =>
   obtain ⟨k, hk, rfl, HD⟩ := hrel
   by_cases hlt : k < l.length
   ·have hxk := ba_at l k
    have HB : Hid (digB (l[k]?.getD 0) = false → l.all digB = false) := Lib.hid fun h => by
     rw [List.all_eq_false]
     exact ⟨l[k], List.getElem_mem hlt, by rw [List.getElem?_eq_getElem hlt] at h; simpa using h⟩
    have HSU := Lib.hid (all_succ (l := l) (k := k) hlt)
    have HDB : Box (digB (l[k]?.getD 0) = decide (48 ≤ (l[k]?.getD 0).toNat ∧ (l[k]?.getD 0).toNat ≤ 57)) := ⟨rfl⟩
    generalize l[k]?.getD 0 = ck at *
    by_cases hc1 : ck.toNat < 48
    ·go_wp2
     go_ret2
     exact ⟨by rw [HN.out (HB.out (by rw [HDB.out]; simp; omega))]; rfl, Below.refl _ _⟩
    ·by_cases hc2 : 57 < ck.toNat
     ·go_wp2
      go_ret2
      exact ⟨by rw [HN.out (HB.out (by rw [HDB.out]; simp; omega))]; rfl, Below.refl _ _⟩
     ·go_wp2
      go_round
      case rel => exact ⟨k + 1, by omega, by go_num, ⟨by rw [HSU.out, HD.out, HDB.out]; simp; omega⟩⟩
      case measure => simp [intOf]; omega
   ·obtain rfl : k = l.length := by omega
    have hall : l.all digB = true := by have := HD.out; rw [List.take_of_length_le (Nat.le_refl _)] at this; exact this
    have HO := Lib.hid (HY.out hall)
    obtain ⟨z1, z2⟩ := HZ.out hall
    rcases Nat.eq_zero_or_pos (dval 0 l) with hz | hz
    ·rw [z1 hz] at HT
     have HO2 : Box (out = .tuple #[.string ⟨#[48]⟩, .bool true]) := ⟨by rw [HO.out, hz, dec_small (by omega)]; rfl⟩
     clear z1 z2 hz hall HZ HY HN HO
     go_wp2_with fail
     refine (HT.out _).mono ?_
     rintro e w1 ⟨rfl, hb1⟩
     go_wp2_with fail
     go_ret2
     exact ⟨by rw [HO2.out]; rfl, hb1⟩
    ·rw [z2 hz] at HT
     have hne : (decDigits (dval 0 l)).isEmpty = false := by obtain ⟨c, r, e, _⟩ := dec_first (dval 0 l); rw [e]; rfl
     clear z1 z2 hz hall HZ HY HN
     generalize decDigits (dval 0 l) = ld at *
     go_wp2_with fail
     refine (HT.out _).mono ?_
     rintro e w1 ⟨rfl, hb1⟩
     go_wp2_with fail
     go_ret2
     exact ⟨by rw [HO.out]; rfl, hb1⟩
set_option maxRecDepth 100000 in
set_option maxHeartbeats 1000000 in
theorem lowest_one (n d : Int) (w : World) (hS : Std w) (hn : (itoa n).length ≤ 50000) (hd : (itoa d).length ≤ 50000) (hd0 : 0 < d) (hg : Nat.gcd n.natAbs d.natAbs = 1) :
  Calls Tryz.prog 131 #[.string ⟨(itoa n).toArray⟩, .string ⟨(itoa d).toArray⟩] w fun e w' => e = .returned (.agg #[.string ⟨(itoa n).toArray⟩, .string ⟨(itoa d).toArray⟩]) ∧ Below w.heap.size w w' := by
 have hsg : sgn d = 1 := by unfold sgn; rw [if_neg (by omega), if_neg (by omega)]
 have HSG := Lib.hid (fun W => whSign_any d W (by omega))
 rw [hsg] at HSG
 have HG := Lib.hid (fun W hW => whGcd_any n d W hW (by omega) (by omega))
 rw [hg, dec_small (by omega)] at HG
 have HS := Lib.hid hS
 clear hsg hg hS hn hd hd0
 generalize itoa n = a at *
 generalize itoa d = b at *
 go_enter Tryz.func131, Tryz.ntmps131
 go_wp2_with fail
 refine (HSG.out _).mono ?_
 rintro e w1 ⟨rfl, rfl⟩
 go_wp2_with fail
 have hs2 := HS.out.alloc (.cells #[.string ⟨#[]⟩, .string ⟨#[]⟩] 51)
 refine (HG.out _ hs2).mono ?_
 rintro e w2 ⟨rfl, hb2⟩
 rw [World.size_alloc] at hb2
 obtain ⟨q0, q1, q2, q3, q4⟩ := two_below hb2
 have hbw2 := below_result hb2
 go_wp2_with fail
 refine bodyPost_ret (v := .agg #[.string ⟨a.toArray⟩, .string ⟨b.toArray⟩]) (by simp [results, Tryz.results131, go_sem, q0, q1]) rfl ⟨rfl, ?_⟩
 exact (hbw2.setCell (Nat.le_refl _) _).setCell (Nat.le_refl _) _
set_option maxRecDepth 100000 in
set_option maxHeartbeats 1000000 in
theorem lowest_more (n d : Int) (w : World) (hS : Std w) (hn : (itoa n).length ≤ 50000) (hd : (itoa d).length ≤ 50000) (hd0 : 0 < d) (hg : Nat.gcd n.natAbs d.natAbs ≠ 1) :
  Calls Tryz.prog 131 #[.string ⟨(itoa n).toArray⟩, .string ⟨(itoa d).toArray⟩] w fun e w' => e = .returned (.agg #[.string ⟨(itoa (n / (Nat.gcd n.natAbs d.natAbs : Nat))).toArray⟩, .string ⟨(itoa (d / (Nat.gcd n.natAbs d.natAbs : Nat))).toArray⟩]) ∧ Below w.heap.size w w' := by
 have hsg : sgn d = 1 := by unfold sgn; rw [if_neg (by omega), if_neg (by omega)]
 have HSG := Lib.hid (fun W => whSign_any d W (by omega))
 rw [hsg] at HSG
 have HG := Lib.hid (fun W hW => whGcd_any n d W hW (by omega) (by omega))
 have hg1 := dec_eq_one (Nat.gcd n.natAbs d.natAbs)
 rw [decide_eq_false hg] at hg1
 have hg2 : (decDigits (Nat.gcd n.natAbs d.natAbs) != [49]) = true := by simp only [bne, hg1]; rfl
 have hgp : 0 < Nat.gcd n.natAbs d.natAbs := Nat.gcd_pos_of_pos_right _ (by omega)
 have hgl : (decDigits (Nat.gcd n.natAbs d.natAbs)).length ≤ 50000 := by
  have h1 := dec_le_len (Nat.le_of_dvd (show 0 < d.natAbs by omega) (Nat.gcd_dvd_right n.natAbs d.natAbs))
  have h2 : decDigits d.natAbs = itoa d := by rw [← itoa_nat]; congr 1; omega
  rw [h2] at h1
  omega
 have HQ1 := Lib.hid (fun W hW => whDivMod_any n (Nat.gcd n.natAbs d.natAbs) W hW hn hgl hgp)
 have HQ2 := Lib.hid (fun W hW => whDivMod_any d (Nat.gcd n.natAbs d.natAbs) W hW hd hgl hgp)
 have HS := Lib.hid hS
 clear hsg hg hS hn hd hd0 hgl hgp
 generalize itoa (n / (Nat.gcd n.natAbs d.natAbs : Nat)) = qa at *
 generalize itoa (d / (Nat.gcd n.natAbs d.natAbs : Nat)) = qb at *
 generalize itoa (n % (Nat.gcd n.natAbs d.natAbs : Nat)) = ra at *
 generalize itoa (d % (Nat.gcd n.natAbs d.natAbs : Nat)) = rb at *
 generalize decDigits (Nat.gcd n.natAbs d.natAbs) = lg at *
 generalize itoa n = a at *
 generalize itoa d = b at *
 go_enter Tryz.func131, Tryz.ntmps131
 go_wp2_with fail
 refine (HSG.out _).mono ?_
 rintro e w1 ⟨rfl, rfl⟩
 go_wp2_with fail
 have hs2 := HS.out.alloc (.cells #[.string ⟨#[]⟩, .string ⟨#[]⟩] 51)
 refine (HG.out _ hs2).mono ?_
 rintro e w2 ⟨rfl, hb2⟩
 rw [World.size_alloc] at hb2
 go_wp2_with fail
 have hs3 := HS.out.below (below_result hb2) (Nat.le_refl _)
 refine (HQ1.out _ hs3).mono ?_
 rintro e w3 ⟨rfl, hb3⟩
 replace hb2 := hb2.trans (hb3.mono (by have := hb2.size; simp at this; omega))
 clear hb3 hs3
 go_wp2_with fail
 have hs3 := HS.out.below (below_result hb2) (Nat.le_refl _)
 refine (HQ2.out _ hs3).mono ?_
 rintro e w4 ⟨rfl, hb3⟩
 replace hb2 := hb2.trans (hb3.mono (by have := hb2.size; simp at this; omega))
 clear hb3 hs3
 obtain ⟨q0, q1, q2, q3, q4⟩ := two_below hb2
 have hbw2 := below_result hb2
 go_wp2_with fail
 refine bodyPost_ret (v := .agg #[.string ⟨qa.toArray⟩, .string ⟨qb.toArray⟩]) (by simp [results, Tryz.results131, go_sem, q0, q1]) rfl ⟨rfl, ?_⟩
 exact (hbw2.setCell (Nat.le_refl _) _).setCell (Nat.le_refl _) _
theorem cells_of_below {w w' : World} {cs : Array Value} {T : TypeId} (hb : Below (w.heap.size + 1) (w.alloc (.cells cs T)) w') : Cells w' w.heap.size T cs.toList := (Cells.new w T cs).below hb (Nat.lt_succ_self _)
theorem below_to_drew {B : Nat} {w0 w1 : World} (h : Below B w0 w1) : Below B w0 w1.drew := ⟨h.os, h.tape, h.output, h.size, h.block⟩
def lowN (n d : Int) : Int := n / (Nat.gcd n.natAbs d.natAbs : Nat)
def lowD (n d : Int) : Int := d / (Nat.gcd n.natAbs d.natAbs : Nat)
theorem lowest_any (n d : Int) (w : World) (hS : Std w) (hn : (itoa n).length ≤ 50000) (hd : (itoa d).length ≤ 50000) (hd0 : 0 < d) :
  Calls Tryz.prog 131 #[.string ⟨(itoa n).toArray⟩, .string ⟨(itoa d).toArray⟩] w fun e w' => e = .returned (.agg #[.string ⟨(itoa (lowN n d)).toArray⟩, .string ⟨(itoa (lowD n d)).toArray⟩]) ∧ Below w.heap.size w w' := by
 by_cases hg : Nat.gcd n.natAbs d.natAbs = 1
 ·have h1 : lowN n d = n := by unfold lowN; rw [hg]; simp
  have h2 : lowD n d = d := by unfold lowD; rw [hg]; simp
  rw [h1, h2]
  exact lowest_one n d w hS hn hd hd0 hg
 ·exact lowest_more n d w hS hn hd hd0 hg
theorem low_pos {n d : Int} (hd0 : 0 < d) : 0 < lowD n d ∧ Nat.gcd (lowN n d).natAbs (lowD n d).natAbs = 1 := by
 have hg : 0 < Nat.gcd n.natAbs d.natAbs := Nat.gcd_pos_of_pos_right _ (by omega)
 obtain ⟨a, ha⟩ : ((Nat.gcd n.natAbs d.natAbs : Nat) : Int) ∣ n := Int.ofNat_dvd_left.2 (Nat.gcd_dvd_left _ _)
 obtain ⟨b, hb⟩ : ((Nat.gcd n.natAbs d.natAbs : Nat) : Int) ∣ d := Int.ofNat_dvd_left.2 (Nat.gcd_dvd_right _ _)
 have hN : lowN n d = a := Int.ediv_eq_of_eq_mul_right (by omega) ha
 have hD : lowD n d = b := Int.ediv_eq_of_eq_mul_right (by omega) hb
 rw [hN, hD]
 have ha' : n.natAbs = Nat.gcd n.natAbs d.natAbs * a.natAbs := by have := congrArg Int.natAbs ha; rw [Int.natAbs_mul, Int.natAbs_natCast] at this; exact this
 have hb' : d.natAbs = Nat.gcd n.natAbs d.natAbs * b.natAbs := by have := congrArg Int.natAbs hb; rw [Int.natAbs_mul, Int.natAbs_natCast] at this; exact this
 generalize hgg : Nat.gcd n.natAbs d.natAbs = g at *
 refine ⟨?_, ?_⟩
 ·rcases (show 0 < b ∨ b ≤ 0 by omega) with h | h
  ·exact h
  ·exfalso
   have : (g : Int) * b ≤ 0 := Int.mul_nonpos_of_nonneg_of_nonpos (by omega) h
   omega
 ·rw [ha', hb', Nat.gcd_mul_left] at hgg
  have : g * Nat.gcd a.natAbs b.natAbs = g * 1 := by omega
  exact Nat.eq_of_mul_eq_mul_left hg this
theorem whDivMod_nat (x y : Nat) (w : World) (hS : Std w) (hx : (decDigits x).length ≤ 50000) (hy : (decDigits y).length ≤ 50000) (h0 : 0 < y) :
  Calls Tryz.prog 179 #[.string ⟨(decDigits x).toArray⟩, .string ⟨(decDigits y).toArray⟩] w fun e w' => e = .returned (.tuple #[.string ⟨(decDigits (x / y)).toArray⟩, .string ⟨(decDigits (x % y)).toArray⟩, .int .i64 0]) ∧ Below w.heap.size w w' := by
 have h := whDivMod_any (x : Int) y w hS (by rw [itoa_nat]; exact hx) hy h0
 rw [itoa_nat, ← Int.natCast_ediv, ← Int.natCast_emod, itoa_nat, itoa_nat] at h
 exact h
theorem mult_le_len (p n : Nat) : mult p n ≤ 4 * (decDigits n).length := by
 rcases Nat.eq_zero_or_pos n with h0 | h0
 ·rw [mult_no (by omega)]; omega
 ·have h1 := mult_pow p n h0
  have h2 := dec_lt_pow n
  have h3 : (10 : Nat) ^ (decDigits n).length ≤ 16 ^ (decDigits n).length := Nat.pow_le_pow_left (by omega) _
  have h4 : (16 : Nat) ^ (decDigits n).length = 2 ^ (4 * (decDigits n).length) := by rw [Nat.pow_mul]
  rcases Nat.lt_or_ge (4 * (decDigits n).length) (mult p n) with h | h
  ·have h5 : (2 : Nat) ^ (4 * (decDigits n).length) ≤ 2 ^ mult p n := Nat.pow_le_pow_right (by omega) (by omega)
   omega
  ·exact h
set_option maxRecDepth 100000 in
set_option maxHeartbeats 1000000 in
theorem exponentL_any (x p : Nat) (w : World) (hS : Std w) (hx : (decDigits x).length ≤ 50000) (hx0 : 0 < x) (hp2 : 2 ≤ p) (hp : p ≤ 97) :
  Calls Tryz.prog 130 #[.string ⟨(decDigits x).toArray⟩, .int .i64 p] w fun e w' => e = .returned (.tuple #[.string ⟨(decDigits (left p x)).toArray⟩, .int .i64 (mult p x : Nat)]) ∧ Below w.heap.size w w' := by
 have HX : Box ((decDigits x).length ≤ 50000 ∧ 0 < x) := ⟨hx, hx0⟩
 have HS := Lib.hid hS
 have hm60 : mult p x ≤ 200000 := by have := mult_le_len p x; omega
 have hpl : (decDigits p).length ≤ 50000 := by
  rw [dec_length]
  have := nDigits_le (u := p) (k := 2) (by omega) (by omega)
  omega
 have HPL : Box ((decDigits p).length ≤ 50000) := ⟨hpl⟩
 have HO := Lib.hid (fun W (hW : Std W) => whOf_any (p : Int) W (by omega) (by omega) hW)
 rw [itoa_nat] at HO
 clear hS hx hx0 hpl
 go_enter Tryz.func130, Tryz.ntmps130
 go_wp2
 go_loopw [0, 5] (fun a t wr => ∃ y k : Nat, a = .string ⟨(decDigits y).toArray⟩ ∧ t = .int .i64 k ∧ k ≤ 200000 ∧ Box (0 < y ∧ y ≤ x) ∧ Box (mult p x = mult p y + k) ∧ Box (left p x = left p y) ∧ Below w.heap.size w wr) (fun _ t _ => 200001 - (intOf t).toNat)
 case atStart => exact ⟨x, 0, rfl, rfl, by omega, ⟨HX.out.2, Nat.le_refl _⟩, ⟨rfl⟩, ⟨rfl⟩, Below.refl _ _⟩
 case round =>
  obtain ⟨y, k, rfl, rfl, hk, HY, HM, HL, hbw⟩ := hrel
  have hsr := HS.out.below hbw (Nat.le_refl _)
  have HSR := Lib.hid hsr
  have HD := Lib.hid (fun W (hW : Std W) => whDivMod_nat y p W hW (Nat.le_trans (dec_le_len HY.out.2) HX.out.1) HPL.out (by omega))
  have hz := dec_eq_zero (y % p)
  clear hsr
  by_cases hdv : y % p = 0
  ·rw [decide_eq_true hdv] at hz
   have hz2 : (decDigits (y % p) != [48]) = false := by simp only [bne, hz]; rfl
   have hyes : 2 ≤ p ∧ 0 < y ∧ y % p = 0 := ⟨hp2, HY.out.1, hdv⟩
   have h1 := HM.out
   rw [mult_yes hyes] at h1
   have h2 := HL.out
   rw [left_yes hyes] at h2
   have hkl : k < 200000 := by omega
   have HM2 : Box (mult p x = mult p (y / p) + (k + 1)) := ⟨by omega⟩
   have HL2 : Box (left p x = left p (y / p)) := ⟨h2⟩
   have HY2 : Box (0 < y / p ∧ y / p ≤ x) := ⟨by
    have hm := Nat.div_add_mod y p
    have h3 := HY.out
    refine ⟨?_, Nat.le_trans (Nat.div_le_self _ _) h3.2⟩
    rcases Nat.eq_zero_or_pos (y / p) with h0 | h0
    ·rw [h0, hdv] at hm; omega
    ·exact h0⟩
   clear h1 h2 hyes hdv
   generalize decDigits (y % p) = lr at *
   go_wp2_with fail
   refine (HO.out _ HSR.out).mono ?_
   rintro e w1 ⟨rfl, hb1⟩
   go_wp2_with fail
   refine (HD.out _ (HSR.out.below hb1 (Nat.le_refl _))).mono ?_
   rintro e w2 ⟨rfl, hb2⟩
   go_wp2_with fail
   go_roundw
   case rel =>
    have h12 := hb1.trans (hb2.mono hb1.size)
    exact ⟨y / p, k + 1, rfl, by go_num, by omega, HY2, HM2, HL2, hbw.trans (h12.mono hbw.size)⟩
   case measure => (simp [intOf]; try omega)
  ·rw [decide_eq_false hdv] at hz
   have hz2 : (decDigits (y % p) != [48]) = true := by simp only [bne, hz]; rfl
   have hno : ¬ (2 ≤ p ∧ 0 < y ∧ y % p = 0) := fun h => hdv h.2.2
   have HM2 : Box (mult p x = k) := ⟨by rw [HM.out, mult_no hno]; omega⟩
   have HL2 : Box (left p x = y) := ⟨by rw [HL.out, left_no hno]⟩
   clear hno hdv
   generalize decDigits (y % p) = lr at *
   go_wp2_with fail
   refine (HO.out _ HSR.out).mono ?_
   rintro e w1 ⟨rfl, hb1⟩
   go_wp2_with fail
   refine (HD.out _ (HSR.out.below hb1 (Nat.le_refl _))).mono ?_
   rintro e w2 ⟨rfl, hb2⟩
   go_wp2_with fail
   go_ret2
   have h12 := hb1.trans (hb2.mono hb1.size)
   exact ⟨ret2 (by rw [HL2.out]; rfl) (by rw [HM2.out]; rfl), hbw.trans (h12.mono hbw.size)⟩
set_option maxHeartbeats 1000000 in
theorem fracCheck_long (n d : Int) (w : World) (hS : Std w) (hn : (decDigits n.natAbs).length ≤ 400) (hd : (decDigits d.natAbs).length ≤ 400) (hd0 : 0 < d) (hg : Nat.gcd n.natAbs d.natAbs = 1) :
  Calls Tryz.prog 47 #[.agg #[.string ⟨(itoa n).toArray⟩, .string ⟨(itoa d).toArray⟩]] w fun e w' => e = .returned (.int .i64 0) ∧ Below w.heap.size w w' := by
 have hln := itoa_len n
 have hld := itoa_len d
 have HN := Lib.hid (fun W => whCheck_split (itoa n) W (by omega) 0 (.inl ⟨⟨n, rfl, by omega⟩, rfl⟩))
 have HD := Lib.hid (fun W => whCheck_split (itoa d) W (by omega) 0 (.inl ⟨⟨d, rfl, by omega⟩, rfl⟩))
 have hsg : sgn d = 1 := by unfold sgn; rw [if_neg (by omega), if_neg (by omega)]
 have HSG := Lib.hid (fun W => whSign_any d W (by omega))
 rw [hsg] at HSG
 have HG := Lib.hid (fun W hW => whGcd_any n d W hW (by omega) (by omega))
 rw [hg, dec_small (by omega)] at HG
 have HS := Lib.hid hS
 clear hsg hg hS hn hd hd0 hln hld
 generalize itoa n = a at *
 generalize itoa d = b at *
 go_enter Tryz.func47, Tryz.ntmps47
 go_wp2_with fail
 refine (HN.out _).mono ?_
 rintro e w1 ⟨rfl, hb1⟩
 rw [World.size_alloc] at hb1
 obtain ⟨q0, q1⟩ := rat_cells hb1
 go_wp2_with fail
 refine (HD.out _).mono ?_
 rintro e w2 ⟨rfl, hb2⟩
 have hb12 : Below (w.heap.size + 1) (w.alloc (.cells #[.string ⟨a.toArray⟩, .string ⟨b.toArray⟩] 51)) w2 := hb1.trans (hb2.mono (by have := hb1.size; simp at this; omega))
 clear q0 q1 hb1 hb2
 obtain ⟨q0, q1⟩ := rat_cells hb12
 go_wp2_with fail
 refine (HSG.out _).mono ?_
 rintro e w3 ⟨rfl, rfl⟩
 go_wp2_with fail
 have hs2 := HS.out.below (below_result hb12) (Nat.le_refl _)
 refine (HG.out _ hs2).mono ?_
 rintro e w4 ⟨rfl, hb4⟩
 go_wp2_with fail
 go_ret
 exact ⟨rfl, (below_result hb12).trans (hb4.mono (below_result hb12).size)⟩
set_option maxRecDepth 100000 in
set_option maxHeartbeats 2000000 in
theorem of_long (pv : Value) (p : List Int) (n d : Nat) (w : World) (hS : Std w) (hpv : IsRow w w.heap.size pv p) (hp : primeErr p = 0) (hn : (decDigits n).length ≤ 400) (hd : (decDigits d).length ≤ 400) (hn0 : 0 < n) (hd0 : 0 < d) (hg : Nat.gcd n d = 1) (hchk : chkAll p [expsTo p n d p.length] = 0) :
  Calls Tryz.prog 87 #[pv, .agg #[.string ⟨(decDigits n).toArray⟩, .string ⟨(decDigits d).toArray⟩]] w fun e w' => OfPost p n d e w' ∧ Below w.heap.size w w' := by
 obtain ⟨i0, hi0, hz0, hz1, hz2⟩ := info_parts Tryz.info_int
 obtain ⟨hp6, hp1, hpr⟩ := right_primes hp
 have HCH : Box (chkAll p [expsTo p n d p.length] = 0) := ⟨hchk⟩
 have HPC := Lib.hid (fun W h => primeCheck_any pv p W.heap.size W h)
 rw [hp] at HPC
 have hsg : sgn (n : Int) = 1 := by unfold sgn; rw [if_neg (by omega), if_neg (by omega)]
 have hln : (itoa (n : Int)).length ≤ 100000 := by rw [itoa_nat]; omega
 have HSG := Lib.hid (fun W => fracSign_any (n : Int) (decDigits d) W hln)
 rw [hsg, itoa_nat] at HSG
 have HFC := Lib.hid (fun W hW => fracCheck_long (n : Int) (d : Int) W hW (by simpa using hn) (by simpa using hd) (by omega) (by simpa using hg))
 rw [itoa_nat, itoa_nat] at HFC
 have HN : Box ((decDigits n).length ≤ 400 ∧ 0 < n) := ⟨hn, hn0⟩
 have HD : Box ((decDigits d).length ≤ 400 ∧ 0 < d) := ⟨hd, hd0⟩
 have HS := Lib.hid hS
 have HPV := Lib.hid hpv
 have HPR : Box (∀ k, k < p.length → 2 ≤ p[k]?.getD 0 ∧ p[k]?.getD 0 ≤ 97) := ⟨hpr⟩
 obtain ⟨AP, cp, rfl, _⟩ := hpv
 clear hchk hsg hln hn hd hn0 hd0 hS hp hg hpr
 generalize hla : decDigits n = la at *
 generalize hlb : decDigits d = lb at *
 have HLA : Box (decDigits n = la) := ⟨hla⟩
 have HLB : Box (decDigits d = lb) := ⟨hlb⟩
 clear hla hlb
 go_enter Tryz.func87, Tryz.ntmps87
 go_wp2_with fail
 refine (HPC.out _ ((HPV.out.alloc (Nat.le_refl _) _).up (by simp))).mono ?_
 rintro e w1 ⟨rfl, hw1⟩
 have hb1 : Below (w.heap.size + 1) (w.alloc (.cells #[.string ⟨la.toArray⟩, .string ⟨lb.toArray⟩] 51)) w1 := by rw [hw1]; exact Below.refl _ _
 clear hw1
 obtain ⟨q0, q1⟩ := rat_cells hb1
 go_wp2_with fail
 have hs1 := HS.out.below (below_result hb1) (Nat.le_refl _)
 refine (HFC.out _ hs1).mono ?_
 rintro e w2 ⟨rfl, hb2⟩
 have hb12 := hb1.trans (hb2.mono (by have := hb1.size; simp at this; omega))
 clear q0 q1
 obtain ⟨q0, q1⟩ := rat_cells hb12
 go_wp2_with fail
 refine (HSG.out _).mono ?_
 rintro e w3 ⟨rfl, hb3⟩
 have hb13 := hb12.trans (hb3.mono (by have := hb12.size; simp at this; omega))
 clear q0 q1
 obtain ⟨q0, q1⟩ := rat_cells hb13
 have hbw3 := below_result hb13
 clear hb1 hb2 hb12 hb3 hs1 hb13
 go_wp2_with fail
 go_quiet (fail)
 have hbw4 := below_drewN hbw3 nq
 clear hbw3 q0 q1
 go_wp2_with fail
 go_loopw [7, 8, 9, 33] (fun a b o i wr => ∃ k : Nat, k ≤ p.length ∧ i = .int .i64 k ∧ a = .string ⟨(decDigits (leftTo p n k)).toArray⟩ ∧ b = .string ⟨(decDigits (leftTo p d k)).toArray⟩ ∧ wr.ownsRow w.heap.size 3 1 o k (is (expsTo p n d k)) ∧ Below w.heap.size w wr) (fun _ _ _ i _ => p.length - (intOf i).toNat)
 case atStart => exact ⟨0, Nat.zero_le _, rfl, by rw [leftTo, HLA.out], by rw [leftTo, HLB.out], World.ownsRow_nil _ _ _ _, hbw4⟩
 case round =>
  clear hbw4
  obtain ⟨k, hk, rfl, rfl, rfl, hown, hbw⟩ := hrel
  have HO := Lib.hid hown
  clear hown
  by_cases hlt : k < p.length
  ·obtain ⟨A', c', e', _, _, hr⟩ := HPV.out
   injection e' with e1 _ e3
   subst e1 e3
   obtain ⟨ad, rfl, _, hca⟩ := (hr.below hbw (Nat.le_refl _)).i_at hlt
   clear hr
   have hpk := HPR.out k hlt
   have hl1 := leftTo_le p n HN.out.2 k
   have hl2 := leftTo_le p d HD.out.2 k
   have e1 : leftTo p n (k + 1) = left (p[k]?.getD 0).toNat (leftTo p n k) := rfl
   have e2 : leftTo p d (k + 1) = left (p[k]?.getD 0).toNat (leftTo p d k) := rfl
   have e3 : expsTo p n d (k + 1) = expsTo p n d k ++ [(mult (p[k]?.getD 0).toNat (leftTo p n k) : Int) - (mult (p[k]?.getD 0).toNat (leftTo p d k) : Int)] := rfl
   generalize p[k]?.getD 0 = q0 at *
   obtain ⟨q, rfl⟩ : ∃ q : Nat, q0 = (q : Int) := ⟨q0.toNat, by omega⟩
   rw [Int.toNat_natCast] at e1 e2 e3
   have hdn : (decDigits (leftTo p n k)).length ≤ 400 := Nat.le_trans (dec_le_len hl1.1) (by rw [HLA.out]; exact HN.out.1)
   have hdd : (decDigits (leftTo p d k)).length ≤ 400 := Nat.le_trans (dec_le_len hl2.1) (by rw [HLB.out]; exact HD.out.1)
   have hm1 := mult_le_len q (leftTo p n k)
   have hm2 := mult_le_len q (leftTo p d k)
   have HE1 := Lib.hid (fun W hW => exponentL_any (leftTo p n k) q W hW (by omega) hl1.2 (by omega) (by omega))
   have HE2 := Lib.hid (fun W hW => exponentL_any (leftTo p d k) q W hW (by omega) hl2.2 (by omega) (by omega))
   have hsr := HS.out.below hbw (Nat.le_refl _)
   have HSR := Lib.hid hsr
   have E1 := Lib.hid e1
   have E2 := Lib.hid e2
   have E3 := Lib.hid e3
   have hmm1 : mult q (leftTo p n k) ≤ 1600 := by omega
   have hmm2 : mult q (leftTo p d k) ≤ 1600 := by omega
   clear e1 e2 e3 hl1 hl2 hdn hdd hsr hm1 hm2
   generalize mult q (leftTo p n k) = m1 at *
   generalize mult q (leftTo p d k) = m2 at *
   go_wp2_with fail
   refine (HE1.out _ HSR.out).mono ?_
   rintro e w1 ⟨rfl, hb1⟩
   go_wp2_with fail
   refine (HE2.out _ (HSR.out.below hb1 (Nat.le_refl _))).mono ?_
   rintro e w2 ⟨rfl, hb2⟩
   have h12 := hb1.trans (hb2.mono hb1.size)
   have hown2 := own_below HO.out h12
   go_wp2_with (at_builtin; refine wpList_append_own _ rfl _ _ _ rfl w.heap.size 3 i0 (.int .i64 0) 1 8 Tryz.underlying40 hi0 hz0 hz1 hz2 rfl (by decide) _ _ _ rfl (hown2.alloc _) ⟨w2.heap.size, 0, Option.none⟩ 1 1 [_] rfl rfl (cell_one_new _ _ _) (by intro u hu; simp at hu; subst hu; rfl) (by unfold maxLen; omega) (by omega) (by have := hbw.size; have := h12.size; simp; omega) ?_; intro v3 w3 hown3 hg3 _)
   go_wp2
   go_roundw
   case rel =>
    refine ⟨k + 1, by omega, by go_num, by rw [E1.out], by rw [E2.out], ?_, ?_⟩
    ·rw [E3.out, is_append]; exact hown3
    ·exact ((hbw.trans (h12.mono hbw.size)).alloc (by have := hbw.size; have := h12.size; omega) _).grown hg3 (by have := hbw.size; have := h12.size; simp; omega) (fun k hk => (HO.out.lt k hk).1)
   case measure => simp [intOf]; omega
  ·obtain rfl : k = p.length := by omega
   have h1 := dec_eq_one (leftTo p n p.length)
   have h2 := dec_eq_one (leftTo p d p.length)
   by_cases hn1 : leftTo p n p.length = 1
   ·rw [decide_eq_true hn1] at h1
    have h1' : (decDigits (leftTo p n p.length) != [49]) = false := by simp only [bne, h1]; rfl
    by_cases hd1 : leftTo p d p.length = 1
    ·rw [decide_eq_true hd1] at h2
     have h2' : (decDigits (leftTo p d p.length) != [49]) = false := by simp only [bne, h2]; rfl
     have HH : Box (leftTo p n p.length = 1 ∧ leftTo p d p.length = 1) := ⟨hn1, hd1⟩
     have hex : wr.ownsRow w.heap.size 3 1 u9 (expsTo p n d p.length).length (is (expsTo p n d p.length)) := by rw [expsTo_len]; exact HO.out
     have hri := IsRow.of_own hex
     have HR := Lib.hid (result_yes _ _ p _ wr (HPV.out.lift hbw) hri HCH.out)
     have HRI := Lib.hid hri
     clear hn1 hd1 hex hri
     go_wp2_with fail
     refine HR.out.mono ?_
     rintro e w1 ⟨rfl, hb1⟩
     go_wp2_with fail
     go_ret2
     exact ⟨.inl ⟨HH.out.1, HH.out.2, _, rfl, HRI.out.lift hb1⟩, hbw.trans (hb1.mono hbw.size)⟩
    ·rw [decide_eq_false hd1] at h2
     have h2' : (decDigits (leftTo p d p.length) != [49]) = true := by simp only [bne, h2]; rfl
     have HH : Box (¬ (leftTo p n p.length = 1 ∧ leftTo p d p.length = 1)) := ⟨fun h => hd1 h.2⟩
     clear hn1 hd1
     go_wp2_with fail
     go_ret2
     exact ⟨.inr ⟨HH.out, rfl⟩, hbw⟩
   ·rw [decide_eq_false hn1] at h1
    have h1' : (decDigits (leftTo p n p.length) != [49]) = true := by simp only [bne, h1]; rfl
    have HH : Box (¬ (leftTo p n p.length = 1 ∧ leftTo p d p.length = 1)) := ⟨fun h => hn1 h.1⟩
    clear hn1 h2
    go_wp2_with fail
    go_ret2
    exact ⟨.inr ⟨HH.out, rfl⟩, hbw⟩
def FracB (a b : List UInt8) : Prop := ∃ n d : Int, a = itoa n ∧ b = itoa d ∧ (decDigits n.natAbs).length ≤ 400 ∧ (decDigits d.natAbs).length ≤ 400 ∧ 0 < d ∧ Nat.gcd n.natAbs d.natAbs = 1
set_option maxRecDepth 100000 in
set_option maxHeartbeats 1000000 in
theorem fracCheck_no1 (a b : List UInt8) (w : World) (ha : a.length ≤ 100000) (h : ¬ intB a) :
  Calls Tryz.prog 47 #[.agg #[.string ⟨a.toArray⟩, .string ⟨b.toArray⟩]] w fun e w' => e = .returned (.int .i64 2) ∧ Below w.heap.size w w' := by
 have HN := Lib.hid (fun W => whCheck_split a W ha 2 (.inr ⟨h, rfl⟩))
 clear h
 go_enter Tryz.func47, Tryz.ntmps47
 go_wp2_with fail
 refine (HN.out _).mono ?_
 rintro e w1 ⟨rfl, hb1⟩
 rw [World.size_alloc] at hb1
 go_wp2_with fail
 go_ret
 exact ⟨rfl, below_result hb1⟩
set_option maxRecDepth 100000 in
set_option maxHeartbeats 1000000 in
theorem fracCheck_no2 (a b : List UInt8) (w : World) (ha : a.length ≤ 100000) (hb : b.length ≤ 100000) (h : intB a) (h2 : ¬ intB b) :
  Calls Tryz.prog 47 #[.agg #[.string ⟨a.toArray⟩, .string ⟨b.toArray⟩]] w fun e w' => e = .returned (.int .i64 2) ∧ Below w.heap.size w w' := by
 have HN := Lib.hid (fun W => whCheck_split a W ha 0 (.inl ⟨h, rfl⟩))
 have HD := Lib.hid (fun W => whCheck_split b W hb 2 (.inr ⟨h2, rfl⟩))
 clear h h2
 go_enter Tryz.func47, Tryz.ntmps47
 go_wp2_with fail
 refine (HN.out _).mono ?_
 rintro e w1 ⟨rfl, hb1⟩
 rw [World.size_alloc] at hb1
 obtain ⟨q0, q1⟩ := rat_cells hb1
 go_wp2_with fail
 refine (HD.out _).mono ?_
 rintro e w2 ⟨rfl, hb2⟩
 have hb12 : Below (w.heap.size + 1) (w.alloc (.cells #[.string ⟨a.toArray⟩, .string ⟨b.toArray⟩] 51)) w2 := hb1.trans (hb2.mono (by have := hb1.size; simp at this; omega))
 clear q0 q1 hb1 hb2
 go_wp2_with fail
 go_ret
 exact ⟨rfl, below_result hb12⟩
set_option maxRecDepth 100000 in
set_option maxHeartbeats 1000000 in
theorem fracCheck_no3 (n d : Int) (w : World) (hn : (decDigits n.natAbs).length ≤ 400) (hd : (decDigits d.natAbs).length ≤ 400) (hd0 : d ≤ 0) :
  Calls Tryz.prog 47 #[.agg #[.string ⟨(itoa n).toArray⟩, .string ⟨(itoa d).toArray⟩]] w fun e w' => e = .returned (.int .i64 2) ∧ Below w.heap.size w w' := by
 have hln := itoa_len n
 have hld := itoa_len d
 have HN := Lib.hid (fun W => whCheck_split (itoa n) W (by omega) 0 (.inl ⟨⟨n, rfl, by omega⟩, rfl⟩))
 have HD := Lib.hid (fun W => whCheck_split (itoa d) W (by omega) 0 (.inl ⟨⟨d, rfl, by omega⟩, rfl⟩))
 have hsg : sgn d ≤ 0 := by unfold sgn; split <;> (try split) <;> omega
 have HSG := Lib.hid (fun W => whSign_any d W (by omega))
 clear hn hd hd0 hln hld
 generalize itoa n = a at *
 generalize itoa d = b at *
 generalize sgn d = sg at *
 go_enter Tryz.func47, Tryz.ntmps47
 go_wp2_with fail
 refine (HN.out _).mono ?_
 rintro e w1 ⟨rfl, hb1⟩
 rw [World.size_alloc] at hb1
 obtain ⟨q0, q1⟩ := rat_cells hb1
 go_wp2_with fail
 refine (HD.out _).mono ?_
 rintro e w2 ⟨rfl, hb2⟩
 have hb12 : Below (w.heap.size + 1) (w.alloc (.cells #[.string ⟨a.toArray⟩, .string ⟨b.toArray⟩] 51)) w2 := hb1.trans (hb2.mono (by have := hb1.size; simp at this; omega))
 clear q0 q1 hb1 hb2
 obtain ⟨q0, q1⟩ := rat_cells hb12
 go_wp2_with fail
 refine (HSG.out _).mono ?_
 rintro e w3 ⟨rfl, rfl⟩
 go_wp2_with fail
 go_ret
 exact ⟨rfl, below_result hb12⟩
set_option maxRecDepth 100000 in
set_option maxHeartbeats 1000000 in
theorem fracCheck_no4 (n d : Int) (w : World) (hS : Std w) (hn : (decDigits n.natAbs).length ≤ 400) (hd : (decDigits d.natAbs).length ≤ 400) (hd0 : 0 < d) (hg : Nat.gcd n.natAbs d.natAbs ≠ 1) :
  Calls Tryz.prog 47 #[.agg #[.string ⟨(itoa n).toArray⟩, .string ⟨(itoa d).toArray⟩]] w fun e w' => e = .returned (.int .i64 2) ∧ Below w.heap.size w w' := by
 have hln := itoa_len n
 have hld := itoa_len d
 have HN := Lib.hid (fun W => whCheck_split (itoa n) W (by omega) 0 (.inl ⟨⟨n, rfl, by omega⟩, rfl⟩))
 have HD := Lib.hid (fun W => whCheck_split (itoa d) W (by omega) 0 (.inl ⟨⟨d, rfl, by omega⟩, rfl⟩))
 have hsg : sgn d = 1 := by unfold sgn; rw [if_neg (by omega), if_neg (by omega)]
 have HSG := Lib.hid (fun W => whSign_any d W (by omega))
 rw [hsg] at HSG
 have HG := Lib.hid (fun W hW => whGcd_any n d W hW (by omega) (by omega))
 have hg1 := dec_eq_one (Nat.gcd n.natAbs d.natAbs)
 rw [decide_eq_false hg] at hg1
 have hg2 : (decDigits (Nat.gcd n.natAbs d.natAbs) != [49]) = true := by simp only [bne, hg1]; rfl
 generalize decDigits (Nat.gcd n.natAbs d.natAbs) = lg at *
 have HS := Lib.hid hS
 clear hsg hg hS hn hd hd0 hln hld
 generalize itoa n = a at *
 generalize itoa d = b at *
 go_enter Tryz.func47, Tryz.ntmps47
 go_wp2_with fail
 refine (HN.out _).mono ?_
 rintro e w1 ⟨rfl, hb1⟩
 rw [World.size_alloc] at hb1
 obtain ⟨q0, q1⟩ := rat_cells hb1
 go_wp2_with fail
 refine (HD.out _).mono ?_
 rintro e w2 ⟨rfl, hb2⟩
 have hb12 : Below (w.heap.size + 1) (w.alloc (.cells #[.string ⟨a.toArray⟩, .string ⟨b.toArray⟩] 51)) w2 := hb1.trans (hb2.mono (by have := hb1.size; simp at this; omega))
 clear q0 q1 hb1 hb2
 obtain ⟨q0, q1⟩ := rat_cells hb12
 go_wp2_with fail
 refine (HSG.out _).mono ?_
 rintro e w3 ⟨rfl, rfl⟩
 go_wp2_with fail
 have hs2 := HS.out.below (below_result hb12) (Nat.le_refl _)
 refine (HG.out _ hs2).mono ?_
 rintro e w4 ⟨rfl, hb4⟩
 go_wp2_with fail
 go_ret
 exact ⟨rfl, (below_result hb12).trans (hb4.mono (below_result hb12).size)⟩
theorem fracCheck_no (a b : List UInt8) (w : World) (hS : Std w) (ha : a.length ≤ 100000) (hb : b.length ≤ 100000) (h : ¬ FracB a b) :
  Calls Tryz.prog 47 #[.agg #[.string ⟨a.toArray⟩, .string ⟨b.toArray⟩]] w fun e w' => e = .returned (.int .i64 2) ∧ Below w.heap.size w w' := by
 by_cases h1 : intB a
 ·by_cases h2 : intB b
  ·obtain ⟨n, rfl, hn⟩ := h1
   obtain ⟨d, rfl, hd⟩ := h2
   by_cases hd0 : 0 < d
   ·exact fracCheck_no4 n d w hS hn hd hd0 (fun hg => h ⟨n, d, rfl, rfl, hn, hd, hd0, hg⟩)
   ·exact fracCheck_no3 n d w hn hd (by omega)
  ·exact fracCheck_no2 a b w ha hb h1 h2
 ·exact fracCheck_no1 a b w ha h1
set_option maxRecDepth 100000 in
set_option maxHeartbeats 2000000 in
theorem of_neg (pv : Value) (p : List Int) (n d : Int) (w : World) (hS : Std w) (hpv : IsRow w w.heap.size pv p) (hp : primeErr p = 0) (hn : (decDigits n.natAbs).length ≤ 400) (hd : (decDigits d.natAbs).length ≤ 400) (hd0 : 0 < d) (hg : Nat.gcd n.natAbs d.natAbs = 1) (hn0 : n ≤ 0) :
  Calls Tryz.prog 87 #[pv, .agg #[.string ⟨(itoa n).toArray⟩, .string ⟨(itoa d).toArray⟩]] w fun e w' => e = .returned (.tuple #[.slice Option.none 0 0, .int .i64 3]) ∧ Below w.heap.size w w' := by
 have HPC := Lib.hid (fun W h => primeCheck_any pv p W.heap.size W h)
 rw [hp] at HPC
 have HFC := Lib.hid (fun W hW => fracCheck_long n d W hW hn hd hd0 hg)
 have hln := itoa_len n
 have HSG := Lib.hid (fun W => fracSign_any n (itoa d) W (by omega))
 have hsg : sgn n ≤ 0 := by unfold sgn; split <;> (try split) <;> omega
 generalize sgn n = sg at *
 generalize itoa n = la at *
 generalize itoa d = lb at *
 have HS := Lib.hid hS
 have HPV := Lib.hid hpv
 obtain ⟨AP, cp, rfl, _⟩ := hpv
 clear hS hp hn hd hd0 hg hn0 hln
 go_enter Tryz.func87, Tryz.ntmps87
 go_wp2_with fail
 refine (HPC.out _ ((HPV.out.alloc (Nat.le_refl _) _).up (by simp))).mono ?_
 rintro e w1 ⟨rfl, hw1⟩
 have hb1 : Below (w.heap.size + 1) (w.alloc (.cells #[.string ⟨la.toArray⟩, .string ⟨lb.toArray⟩] 51)) w1 := by rw [hw1]; exact Below.refl _ _
 clear hw1
 obtain ⟨q0, q1⟩ := rat_cells hb1
 go_wp2_with fail
 have hs1 := HS.out.below (below_result hb1) (Nat.le_refl _)
 refine (HFC.out _ hs1).mono ?_
 rintro e w2 ⟨rfl, hb2⟩
 have hb12 := hb1.trans (hb2.mono (by have := hb1.size; simp at this; omega))
 clear q0 q1
 obtain ⟨q0, q1⟩ := rat_cells hb12
 go_wp2_with fail
 refine (HSG.out _).mono ?_
 rintro e w3 ⟨rfl, hb3⟩
 have hb13 := hb12.trans (hb3.mono (by have := hb12.size; simp at this; omega))
 go_wp2_with fail
 go_ret2
 exact ⟨rfl, below_result hb13⟩
theorem itoa_inj {n m : Int} (h : itoa n = itoa m) : n = m := by
 rcases itoa_cases n with ⟨hn, e⟩ | ⟨hn, e⟩ <;> rcases itoa_cases m with ⟨hm, e2⟩ | ⟨hm, e2⟩
 ·rw [e, e2] at h
  injection h with _ h
  have := congrArg (dval 0) h
  rw [dval_dec, dval_dec] at this
  omega
 ·rw [e, e2] at h
  obtain ⟨c, r, e3, hc, _⟩ := dec_first m.natAbs
  rw [e3] at h
  injection h with h _
  subst h
  simp at hc
 ·rw [e, e2] at h
  obtain ⟨c, r, e3, hc, _⟩ := dec_first n.natAbs
  rw [e3] at h
  injection h with h _
  subst h
  simp at hc
 ·rw [e, e2] at h
  have := congrArg (dval 0) h
  rw [dval_dec, dval_dec] at this
  omega
end Go.Proofs.YtaaeekahhhookaaGreatDoor
