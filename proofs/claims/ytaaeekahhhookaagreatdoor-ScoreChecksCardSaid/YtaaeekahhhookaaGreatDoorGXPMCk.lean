import Derived.Test.YtaaeekahhhookaaGreatDoorGIMCk
import Derived.Lib.IndexAny
import Derived.Test.YtaaeekahhhookaaGreatDoorFSgMCk
import Derived.Test.YtaaeekahhhookaaGreatDoorSayMCk
import Derived.Lib.Split
import Derived.Deep.RegionHeld3
import Derived.Laws.Runes
namespace Go.Proofs.YtaaeekahhhookaaGreatDoor
open Go.RowKit Go.Lib
theorem trim_no {s p : List UInt8} (h : Lib.hasPrefix s p = false) : Lib.trimPrefix s p = s := by unfold Lib.trimPrefix; rw [h]; rfl
def okDig (l : List UInt8) : Bool := !l.isEmpty && l.all digB
def digS (l : List UInt8) : List UInt8 := if okDig l then decDigits (dval 0 l) else []
theorem digOut_eq (l : List UInt8) : digOut l = .tuple #[.string ⟨(digS l).toArray⟩, .bool (okDig l)] := by
 by_cases h : l ≠ [] ∧ l.all digB = true
 ·have h2 : okDig l = true := by unfold okDig; rw [h.2]; cases l with | nil => exact absurd rfl h.1 | cons _ _ => rfl
  unfold digOut digS
  rw [if_pos h, h2, if_pos rfl]
 ·have h2 : okDig l = false := by
   unfold okDig
   cases l with
   | nil => rfl
   | cons c t =>
     cases hd : (c :: t).all digB with
     | false => rfl
     | true => exact absurd ⟨by simp, hd⟩ h
  unfold digOut digS
  rw [if_neg h, h2, if_neg (by decide)]
theorem digs_any (l : List UInt8) (w : World) (hl : l.length ≤ 1000000) :
  Calls Tryz.prog 209 #[.string ⟨l.toArray⟩] w fun e w' => e = .returned (.tuple #[.string ⟨(digS l).toArray⟩, .bool (okDig l)]) ∧ Below w.heap.size w w' := digOut_eq l ▸ digits_any l w hl
theorem okDig_all {l : List UInt8} (h : okDig l = true) : l ≠ [] ∧ l.all digB = true := by
 unfold okDig at h
 rw [Bool.and_eq_true] at h
 refine ⟨fun e => ?_, h.2⟩
 subst e
 exact absurd h.1 (by decide)
theorem okDig_append {a b : List UInt8} (h1 : okDig a = true) (h2 : okDig b = true) : okDig (a ++ b) = true := by
 obtain ⟨x1, x2⟩ := okDig_all h1
 obtain ⟨_, y2⟩ := okDig_all h2
 unfold okDig
 rw [List.all_append, x2, y2]
 cases a with
 | nil => exact absurd rfl x1
 | cons _ _ => rfl
theorem dval_len {l : List UInt8} (h : okDig l = true) : (decDigits (dval 0 l)).length ≤ l.length := by
 obtain ⟨h0, h1⟩ := okDig_all h
 obtain ⟨z1, z2⟩ := trim_zeros l h1
 rcases Nat.eq_zero_or_pos (dval 0 l) with hz | hz
 ·rw [hz, dec_small (by omega)]
  cases l with
  | nil => exact absurd rfl h0
  | cons _ _ => simp
 ·rw [← z2 hz]
  exact (List.dropWhile_suffix _).length_le
theorem dec_pow10 : ∀ m : Nat, decDigits (10 ^ m) = 49 :: List.replicate m 48
 | 0 => by rw [Nat.pow_zero, dec_small (by omega)]; rfl
 | m + 1 => by
   have hp : 0 < 10 ^ m := Nat.pow_pos (by omega)
   rw [Nat.pow_succ, Nat.mul_comm, show 10 * 10 ^ m = 10 * 10 ^ m + 0 from rfl, dec_mul_add _ 0 hp (by omega), dec_pow10 m, List.replicate_succ']
   rfl
theorem repeat_zeros (n : Nat) (w : World) (hn : n ≤ 1000000) : Calls Tryz.prog 210 #[.string ⟨#[48]⟩, .int .i64 n] w fun e w' => e = .returned (.string ⟨(List.replicate n 48).toArray⟩) ∧ Below w.heap.size w w' := by
 have h := repeat_any [48] n w hn (by simp)
 have e : ∀ m : Nat, Lib.repeatL [48] m = List.replicate m 48 := by
  intro m
  induction m with
  | zero => rfl
  | succ m ih => rw [Lib.repeatL, ih, List.replicate_succ]; rfl
 rw [e n] at h
 exact h
inductive Frd where
 | bad (e : Int)
 | good (n d : Nat)
def fracRead (t : List UInt8) (k : Int) : Frd :=
 if k < 0 then (if okDig t then .good (dval 0 t) 1 else .bad 15)
 else if (t[k.toNat]?.getD 0) = 47 then
  (if okDig (t.take k.toNat) && okDig (t.drop (k.toNat + 1)) then (if dval 0 (t.drop (k.toNat + 1)) = 0 then .bad 17 else .good (dval 0 (t.take k.toNat)) (dval 0 (t.drop (k.toNat + 1)))) else .bad 15)
 else (if okDig (t.take k.toNat) && okDig (t.drop (k.toNat + 1)) then .good (dval 0 (t.take k.toNat ++ t.drop (k.toNat + 1))) (10 ^ (t.length - k.toNat - 1)) else .bad 15)
def sgnd (b : Bool) (n : Nat) : Int := if b then -(n : Int) else n
def frdOut (b : Bool) : Frd → Value
 | .bad e => .tuple #[.agg #[.string ⟨#[]⟩, .string ⟨#[]⟩], .int .i64 e]
 | .good n d => .tuple #[.agg #[.string ⟨(itoa (lowN (sgnd b n) d)).toArray⟩, .string ⟨(itoa (lowD (sgnd b n) d)).toArray⟩], .int .i64 0]
theorem frdOut_bad (b : Bool) (e : Int) : frdOut b (.bad e) = .tuple #[.agg #[.string ⟨#[]⟩, .string ⟨#[]⟩], .int .i64 e] := rfl
theorem frdOut_good (b : Bool) (n d : Nat) : frdOut b (.good n d) = .tuple #[.agg #[.string ⟨(itoa (lowN (sgnd b n) d)).toArray⟩, .string ⟨(itoa (lowD (sgnd b n) d)).toArray⟩], .int .i64 0] := rfl
theorem low_read (b : Bool) (n d : Nat) (w : World) (hS : Std w) (hn : (decDigits n).length ≤ 40000) (hd : (decDigits d).length ≤ 40000) (hd0 : 0 < d) :
  Calls Tryz.prog 131 #[.string ⟨(itoa (sgnd b n)).toArray⟩, .string ⟨(decDigits d).toArray⟩] w fun e w' => e = .returned (.agg #[.string ⟨(itoa (lowN (sgnd b n) d)).toArray⟩, .string ⟨(itoa (lowD (sgnd b n) d)).toArray⟩]) ∧ Below w.heap.size w w' := by
 have h := lowest_any (sgnd b n) (d : Int) w hS (by
  have := itoa_len (sgnd b n)
  have e : (sgnd b n).natAbs = n := by unfold sgnd; split <;> omega
  rw [e] at this
  omega) (by rw [itoa_nat]; omega) (by omega)
 rw [itoa_nat] at h
 exact h
def CutIs (s t : List UInt8) (b : Bool) : Prop := ∀ W, Calls Tryz.prog 207 #[.string ⟨s.toArray⟩, .string ⟨#[45]⟩] W fun e w' => e = .returned (.tuple #[.string ⟨t.toArray⟩, .bool b]) ∧ Below W.heap.size W w'
def IdxIs (t : List UInt8) (k : Int) : Prop := ∀ W, Calls Tryz.prog 208 #[.string ⟨t.toArray⟩, .string ⟨#[47, 46]⟩] W fun e w' => e = .returned (.int .i64 k) ∧ Below W.heap.size W w'
set_option maxRecDepth 100000 in
theorem fParse_long (s : List UInt8) (w : World) (hl : 400 < s.length) (hl2 : s.length ≤ 1000000) :
  Calls Tryz.prog 174 #[.string ⟨s.toArray⟩] w fun e w' => e = .returned (frdOut false (.bad 16)) ∧ Below w.heap.size w w' := by
 rw [frdOut_bad]
 go_enter Tryz.func174, Tryz.ntmps174
 go_wp2_with fail
 refine bodyPost_ret (v := .tuple #[.agg #[.string ⟨#[]⟩, .string ⟨#[]⟩], .int .i64 16]) (by simp [results, Tryz.results174, go_sem]) rfl ⟨rfl, ?_⟩
 exact (Below.refl _ _).alloc (Nat.le_refl _) _
set_option maxRecDepth 100000 in
set_option maxHeartbeats 2000000 in
theorem fParse_none (s t : List UInt8) (b : Bool) (w : World) (hS : Std w) (hl : s.length ≤ 400) (ht : t.length ≤ s.length) (hc : CutIs s t b) (hi : IdxIs t (-1)) :
  Calls Tryz.prog 174 #[.string ⟨s.toArray⟩] w fun e w' => e = .returned (frdOut b (if okDig t then .good (dval 0 t) 1 else .bad 15)) ∧ Below w.heap.size w w' := by
 have HC := Lib.hid hc
 have HI := Lib.hid hi
 have HD := Lib.hid (fun W => digs_any t W (by omega))
 have HS := Lib.hid hS
 have hli : (s.length : Int) ≤ 400 := by omega
 cases ho : okDig t with
 | false =>
   rw [ho] at HD
   rw [if_neg (by decide), frdOut_bad]
   clear hS hl ht hc hi ho
   generalize digS t = ds at *
   go_enter Tryz.func174, Tryz.ntmps174
   go_wp2_with fail
   refine (HC.out _).mono ?_
   rintro e w1 ⟨rfl, hb1⟩
   rw [World.size_alloc] at hb1
   go_wp2_with fail
   refine (HI.out _).mono ?_
   rintro e w2 ⟨rfl, hb2⟩
   replace hb1 := hb1.trans (hb2.mono (by have := hb1.size; simp at this; omega))
   clear hb2
   go_wp2_with fail
   refine (HD.out _).mono ?_
   rintro e w3 ⟨rfl, hb2⟩
   replace hb1 := hb1.trans (hb2.mono (by have := hb1.size; simp at this; omega))
   clear hb2
   obtain ⟨q0, q1, q2, q3, q4⟩ := two_below hb1
   have hbw2 := below_result hb1
   go_wp2_with fail
   refine bodyPost_ret (v := .tuple #[.agg #[.string ⟨#[]⟩, .string ⟨#[]⟩], .int .i64 15]) (by simp [results, Tryz.results174, go_sem, q0, q1]) rfl ⟨rfl, ?_⟩
   exact (hbw2.setCell (Nat.le_refl _) _).setCell (Nat.le_refl _) _
 | true =>
   have hdl := dval_len ho
   have HL := Lib.hid (fun W hW => low_read b (dval 0 t) 1 W hW (by omega) (by rw [dec_small (by omega)]; simp) (by omega))
   rw [dec_small (show 1 < 10 by omega), show UInt8.ofNat (48 + 1) = 49 from rfl] at HL
   have HN := Lib.hid (fun W => whNeg_any (dval 0 t : Nat) W (by rw [itoa_nat]; omega))
   rw [itoa_nat] at HN
   have hds : digS t = decDigits (dval 0 t) := by unfold digS; rw [ho, if_pos rfl]
   rw [ho, hds] at HD
   rw [if_pos rfl, frdOut_good]
   cases b with
   | false =>
     rw [show itoa (sgnd false (dval 0 t)) = decDigits (dval 0 t) by unfold sgnd; rw [if_neg (by decide), itoa_nat]] at HL
     clear hS hl ht hc hi ho hds hdl HN
     generalize itoa (lowN (sgnd false (dval 0 t)) (1 : Nat)) = la at *
     generalize itoa (lowD (sgnd false (dval 0 t)) (1 : Nat)) = lb at *
     generalize decDigits (dval 0 t) = ld at *
     go_enter Tryz.func174, Tryz.ntmps174
     go_wp2_with fail
     refine (HC.out _).mono ?_
     rintro e w1 ⟨rfl, hb1⟩
     rw [World.size_alloc] at hb1
     go_wp2_with fail
     refine (HI.out _).mono ?_
     rintro e w2 ⟨rfl, hb2⟩
     replace hb1 := hb1.trans (hb2.mono (by have := hb1.size; simp at this; omega))
     clear hb2
     go_wp2_with fail
     refine (HD.out _).mono ?_
     rintro e w3 ⟨rfl, hb2⟩
     replace hb1 := hb1.trans (hb2.mono (by have := hb1.size; simp at this; omega))
     clear hb2
     go_wp2_with fail
     have hs3 := HS.out.below (below_result hb1) (Nat.le_refl _)
     refine (HL.out _ hs3).mono ?_
     rintro e w4 ⟨rfl, hb3⟩
     replace hb1 := hb1.trans (hb3.mono (by have := hb1.size; simp at this; omega))
     clear hb3 hs3
     obtain ⟨q0, q1, q2, q3, q4⟩ := two_below hb1
     have hbw2 := below_result hb1
     go_wp2_with fail
     refine bodyPost_ret (v := .tuple #[.agg #[.string ⟨la.toArray⟩, .string ⟨lb.toArray⟩], .int .i64 0]) (by simp [results, Tryz.results174, go_sem, q0, q1]) rfl ⟨rfl, ?_⟩
     exact (hbw2.setCell (Nat.le_refl _) _).setCell (Nat.le_refl _) _
   | true =>
     rw [show sgnd true (dval 0 t) = -((dval 0 t : Nat) : Int) by unfold sgnd; rw [if_pos rfl]] at HL ⊢
     clear hS hl ht hc hi ho hds hdl
     generalize itoa (lowN (-((dval 0 t : Nat) : Int)) (1 : Nat)) = la at *
     generalize itoa (lowD (-((dval 0 t : Nat) : Int)) (1 : Nat)) = lb at *
     generalize decDigits (dval 0 t) = ld at *
     generalize itoa (-((dval 0 t : Nat) : Int)) = lm at *
     go_enter Tryz.func174, Tryz.ntmps174
     go_wp2_with fail
     refine (HC.out _).mono ?_
     rintro e w1 ⟨rfl, hb1⟩
     rw [World.size_alloc] at hb1
     go_wp2_with fail
     refine (HI.out _).mono ?_
     rintro e w2 ⟨rfl, hb2⟩
     replace hb1 := hb1.trans (hb2.mono (by have := hb1.size; simp at this; omega))
     clear hb2
     go_wp2_with fail
     refine (HD.out _).mono ?_
     rintro e w3 ⟨rfl, hb2⟩
     replace hb1 := hb1.trans (hb2.mono (by have := hb1.size; simp at this; omega))
     clear hb2
     go_wp2_with fail
     refine (HN.out _).mono ?_
     rintro e w3 ⟨rfl, hb2⟩
     replace hb1 := hb1.trans (hb2.mono (by have := hb1.size; simp at this; omega))
     clear hb2
     go_wp2_with fail
     have hs3 := HS.out.below (below_result hb1) (Nat.le_refl _)
     refine (HL.out _ hs3).mono ?_
     rintro e w4 ⟨rfl, hb3⟩
     replace hb1 := hb1.trans (hb3.mono (by have := hb1.size; simp at this; omega))
     clear hb3 hs3
     obtain ⟨q0, q1, q2, q3, q4⟩ := two_below hb1
     have hbw2 := below_result hb1
     go_wp2_with fail
     refine bodyPost_ret (v := .tuple #[.agg #[.string ⟨la.toArray⟩, .string ⟨lb.toArray⟩], .int .i64 0]) (by simp [results, Tryz.results174, go_sem, q0, q1]) rfl ⟨rfl, ?_⟩
     exact (hbw2.setCell (Nat.le_refl _) _).setCell (Nat.le_refl _) _
set_option maxRecDepth 100000 in
set_option maxHeartbeats 4000000 in
theorem fParse_sl (s ta tb : List UInt8) (b : Bool) (w : World) (hS : Std w) (hl : s.length ≤ 400) (ht : (ta ++ 47 :: tb).length ≤ s.length) (hc : CutIs s (ta ++ 47 :: tb) b) (hi : IdxIs (ta ++ 47 :: tb) ta.length) :
  Calls Tryz.prog 174 #[.string ⟨s.toArray⟩] w fun e w' => e = .returned (frdOut b (if okDig ta && okDig tb then (if dval 0 tb = 0 then .bad 17 else .good (dval 0 ta) (dval 0 tb)) else .bad 15)) ∧ Below w.heap.size w w' := by
 have htl : (ta ++ 47 :: tb).length = ta.length + 1 + tb.length := by simp; omega
 have HC := Lib.hid hc
 have HI := Lib.hid hi
 have HD1 := Lib.hid (fun W => digs_any ta W (by omega))
 have HD2 := Lib.hid (fun W => digs_any tb W (by omega))
 have HS := Lib.hid hS
 have hli : (s.length : Int) ≤ 400 := by omega
 have hx1 : ∀ h, (⟨(ta ++ 47 :: tb).toArray⟩ : ByteArray)[ta.length]'h = 47 := by
  intro h
  rw [ba_at]
  simp
 have hx2 : (⟨(ta ++ 47 :: tb).toArray⟩ : ByteArray).extract 0 ta.length = ⟨ta.toArray⟩ := ba_ext (by rw [ext_eq]; simp)
 have hx3 : (⟨(ta ++ 47 :: tb).toArray⟩ : ByteArray).extract (ta.length + 1) (ta ++ 47 :: tb).length = ⟨tb.toArray⟩ := ba_ext (by rw [ext_eq, mk_toList, mk_toList, List.take_of_length_le (Nat.le_refl _), show ta ++ 47 :: tb = (ta ++ [47]) ++ tb by simp, List.drop_left' (by simp)])
 have hle : ta.length + 1 ≤ (ta ++ 47 :: tb).length := by omega
 have hln : (ta ++ 47 :: tb).length ≤ 400 := by omega
 have hdl1 : okDig ta = true → (decDigits (dval 0 ta)).length ≤ 400 := fun h => by have := dval_len h; omega
 have hdl2 : okDig tb = true → (decDigits (dval 0 tb)).length ≤ 400 := fun h => by have := dval_len h; omega
 clear hS hl ht hc hi htl
 generalize ta ++ 47 :: tb = t at *
 cases ho1 : okDig ta with
 | false =>
   rw [ho1] at HD1
   rw [Bool.false_and, if_neg (by decide), frdOut_bad]
   clear hdl1 hdl2 ho1
   generalize digS ta = d1 at *
   generalize digS tb = d2 at *
   generalize okDig tb = o2 at *
   go_enter Tryz.func174, Tryz.ntmps174
   go_wp2_with fail
   refine (HC.out _).mono ?_
   rintro e wk1 ⟨rfl, hb1⟩
   rw [World.size_alloc] at hb1
   go_wp2_with fail
   refine (HI.out _).mono ?_
   rintro e wk2 ⟨rfl, hbk⟩
   replace hb1 := hb1.trans (hbk.mono (by have := hb1.size; simp at this; omega))
   clear hbk
   go_wp2_with fail
   refine (HD1.out _).mono ?_
   rintro e wk3 ⟨rfl, hbk⟩
   replace hb1 := hb1.trans (hbk.mono (by have := hb1.size; simp at this; omega))
   clear hbk
   go_wp2_with fail
   refine (HD2.out _).mono ?_
   rintro e wk4 ⟨rfl, hbk⟩
   replace hb1 := hb1.trans (hbk.mono (by have := hb1.size; simp at this; omega))
   clear hbk
   obtain ⟨q0, q1, q2, q3, q4⟩ := two_below hb1
   have hbw2 := below_result hb1
   go_wp2_with fail
   refine bodyPost_ret (v := .tuple #[.agg #[.string ⟨#[]⟩, .string ⟨#[]⟩], .int .i64 15]) (by simp [results, Tryz.results174, go_sem, q0, q1]) rfl ⟨rfl, ?_⟩
   exact (hbw2.setCell (Nat.le_refl _) _).setCell (Nat.le_refl _) _
 | true =>
 have hds1 : digS ta = decDigits (dval 0 ta) := by unfold digS; rw [ho1, if_pos rfl]
 rw [ho1, hds1] at HD1
 cases ho2 : okDig tb with
 | false =>
   rw [ho2] at HD2
   rw [Bool.true_and, if_neg (by decide), frdOut_bad]
   clear hdl1 hdl2 ho1 ho2 hds1
   generalize decDigits (dval 0 ta) = d1 at *
   generalize digS tb = d2 at *
   go_enter Tryz.func174, Tryz.ntmps174
   go_wp2_with fail
   refine (HC.out _).mono ?_
   rintro e wk5 ⟨rfl, hb1⟩
   rw [World.size_alloc] at hb1
   go_wp2_with fail
   refine (HI.out _).mono ?_
   rintro e wk6 ⟨rfl, hbk⟩
   replace hb1 := hb1.trans (hbk.mono (by have := hb1.size; simp at this; omega))
   clear hbk
   go_wp2_with fail
   refine (HD1.out _).mono ?_
   rintro e wk7 ⟨rfl, hbk⟩
   replace hb1 := hb1.trans (hbk.mono (by have := hb1.size; simp at this; omega))
   clear hbk
   go_wp2_with fail
   refine (HD2.out _).mono ?_
   rintro e wk8 ⟨rfl, hbk⟩
   replace hb1 := hb1.trans (hbk.mono (by have := hb1.size; simp at this; omega))
   clear hbk
   obtain ⟨q0, q1, q2, q3, q4⟩ := two_below hb1
   have hbw2 := below_result hb1
   go_wp2_with fail
   refine bodyPost_ret (v := .tuple #[.agg #[.string ⟨#[]⟩, .string ⟨#[]⟩], .int .i64 15]) (by simp [results, Tryz.results174, go_sem, q0, q1]) rfl ⟨rfl, ?_⟩
   exact (hbw2.setCell (Nat.le_refl _) _).setCell (Nat.le_refl _) _
 | true =>
 have hds2 : digS tb = decDigits (dval 0 tb) := by unfold digS; rw [ho2, if_pos rfl]
 rw [ho2, hds2] at HD2
 replace hdl1 := hdl1 ho1
 replace hdl2 := hdl2 ho2
 have hz := dec_eq_zero (dval 0 tb)
 rw [Bool.true_and, if_pos rfl]
 by_cases h0 : dval 0 tb = 0
 ·rw [if_pos h0, frdOut_bad]
  rw [decide_eq_true h0] at hz
  clear hdl1 hdl2 ho1 ho2 hds1 hds2 h0
  generalize decDigits (dval 0 ta) = d1 at *
  generalize decDigits (dval 0 tb) = d2 at *
  go_enter Tryz.func174, Tryz.ntmps174
  go_wp2_with fail
  refine (HC.out _).mono ?_
  rintro e wk9 ⟨rfl, hb1⟩
  rw [World.size_alloc] at hb1
  go_wp2_with fail
  refine (HI.out _).mono ?_
  rintro e wk10 ⟨rfl, hbk⟩
  replace hb1 := hb1.trans (hbk.mono (by have := hb1.size; simp at this; omega))
  clear hbk
  go_wp2_with fail
  refine (HD1.out _).mono ?_
  rintro e wk11 ⟨rfl, hbk⟩
  replace hb1 := hb1.trans (hbk.mono (by have := hb1.size; simp at this; omega))
  clear hbk
  go_wp2_with fail
  refine (HD2.out _).mono ?_
  rintro e wk12 ⟨rfl, hbk⟩
  replace hb1 := hb1.trans (hbk.mono (by have := hb1.size; simp at this; omega))
  clear hbk
  obtain ⟨q0, q1, q2, q3, q4⟩ := two_below hb1
  have hbw2 := below_result hb1
  go_wp2_with fail
  refine bodyPost_ret (v := .tuple #[.agg #[.string ⟨#[]⟩, .string ⟨#[]⟩], .int .i64 17]) (by simp [results, Tryz.results174, go_sem, q0, q1]) rfl ⟨rfl, ?_⟩
  exact (hbw2.setCell (Nat.le_refl _) _).setCell (Nat.le_refl _) _
 rw [if_neg h0, frdOut_good]
 rw [decide_eq_false h0] at hz
 have HL := Lib.hid (fun W hW => low_read b (dval 0 ta) (dval 0 tb) W hW (by omega) (by omega) (by omega))
 have HN := Lib.hid (fun W => whNeg_any (dval 0 ta : Nat) W (by rw [itoa_nat]; omega))
 rw [itoa_nat] at HN
 cases b with
 | false =>
   rw [show itoa (sgnd false (dval 0 ta)) = decDigits (dval 0 ta) by unfold sgnd; rw [if_neg (by decide), itoa_nat]] at HL
   clear hdl1 hdl2 ho1 ho2 hds1 hds2 h0 HN
   generalize itoa (lowN (sgnd false (dval 0 ta)) (dval 0 tb : Nat)) = la at *
   generalize itoa (lowD (sgnd false (dval 0 ta)) (dval 0 tb : Nat)) = lb at *
   generalize decDigits (dval 0 ta) = d1 at *
   generalize decDigits (dval 0 tb) = d2 at *
   go_enter Tryz.func174, Tryz.ntmps174
   go_wp2_with fail
   refine (HC.out _).mono ?_
   rintro e wk13 ⟨rfl, hb1⟩
   rw [World.size_alloc] at hb1
   go_wp2_with fail
   refine (HI.out _).mono ?_
   rintro e wk14 ⟨rfl, hbk⟩
   replace hb1 := hb1.trans (hbk.mono (by have := hb1.size; simp at this; omega))
   clear hbk
   go_wp2_with fail
   refine (HD1.out _).mono ?_
   rintro e wk15 ⟨rfl, hbk⟩
   replace hb1 := hb1.trans (hbk.mono (by have := hb1.size; simp at this; omega))
   clear hbk
   go_wp2_with fail
   refine (HD2.out _).mono ?_
   rintro e wk16 ⟨rfl, hbk⟩
   replace hb1 := hb1.trans (hbk.mono (by have := hb1.size; simp at this; omega))
   clear hbk
   go_wp2_with fail
   refine (HL.out _ (HS.out.below (below_result hb1) (Nat.le_refl _))).mono ?_
   rintro e wk17 ⟨rfl, hbk⟩
   replace hb1 := hb1.trans (hbk.mono (by have := hb1.size; simp at this; omega))
   clear hbk
   obtain ⟨q0, q1, q2, q3, q4⟩ := two_below hb1
   have hbw2 := below_result hb1
   go_wp2_with fail
   refine bodyPost_ret (v := .tuple #[.agg #[.string ⟨la.toArray⟩, .string ⟨lb.toArray⟩], .int .i64 0]) (by simp [results, Tryz.results174, go_sem, q0, q1]) rfl ⟨rfl, ?_⟩
   exact (hbw2.setCell (Nat.le_refl _) _).setCell (Nat.le_refl _) _
 | true =>
   rw [show sgnd true (dval 0 ta) = -((dval 0 ta : Nat) : Int) by unfold sgnd; rw [if_pos rfl]] at HL ⊢
   clear hdl1 hdl2 ho1 ho2 hds1 hds2 h0
   generalize itoa (lowN (-((dval 0 ta : Nat) : Int)) (dval 0 tb : Nat)) = la at *
   generalize itoa (lowD (-((dval 0 ta : Nat) : Int)) (dval 0 tb : Nat)) = lb at *
   generalize decDigits (dval 0 ta) = d1 at *
   generalize decDigits (dval 0 tb) = d2 at *
   generalize itoa (-((dval 0 ta : Nat) : Int)) = lm at *
   go_enter Tryz.func174, Tryz.ntmps174
   go_wp2_with fail
   refine (HC.out _).mono ?_
   rintro e wk18 ⟨rfl, hb1⟩
   rw [World.size_alloc] at hb1
   go_wp2_with fail
   refine (HI.out _).mono ?_
   rintro e wk19 ⟨rfl, hbk⟩
   replace hb1 := hb1.trans (hbk.mono (by have := hb1.size; simp at this; omega))
   clear hbk
   go_wp2_with fail
   refine (HD1.out _).mono ?_
   rintro e wk20 ⟨rfl, hbk⟩
   replace hb1 := hb1.trans (hbk.mono (by have := hb1.size; simp at this; omega))
   clear hbk
   go_wp2_with fail
   refine (HD2.out _).mono ?_
   rintro e wk21 ⟨rfl, hbk⟩
   replace hb1 := hb1.trans (hbk.mono (by have := hb1.size; simp at this; omega))
   clear hbk
   go_wp2_with fail
   refine (HN.out _).mono ?_
   rintro e wk22 ⟨rfl, hbk⟩
   replace hb1 := hb1.trans (hbk.mono (by have := hb1.size; simp at this; omega))
   clear hbk
   go_wp2_with fail
   refine (HL.out _ (HS.out.below (below_result hb1) (Nat.le_refl _))).mono ?_
   rintro e wk23 ⟨rfl, hbk⟩
   replace hb1 := hb1.trans (hbk.mono (by have := hb1.size; simp at this; omega))
   clear hbk
   obtain ⟨q0, q1, q2, q3, q4⟩ := two_below hb1
   have hbw2 := below_result hb1
   go_wp2_with fail
   refine bodyPost_ret (v := .tuple #[.agg #[.string ⟨la.toArray⟩, .string ⟨lb.toArray⟩], .int .i64 0]) (by simp [results, Tryz.results174, go_sem, q0, q1]) rfl ⟨rfl, ?_⟩
   exact (hbw2.setCell (Nat.le_refl _) _).setCell (Nat.le_refl _) _
def canWd (l d : List UInt8) : Bool := d.all digB && (l == [48] || (!d.isEmpty && decide ((d[0]?.getD 0).toNat ≠ 48)))
def canW (l : List UInt8) : Bool := canWd l (Lib.trimPrefix l [45])
set_option maxRecDepth 100000 in
set_option maxHeartbeats 1000000 in
theorem canonicalW_any (l : List UInt8) (w : World) (hl : l.length ≤ 100000) :
  Calls Tryz.prog 214 #[.string ⟨l.toArray⟩] w fun e w' => e = .returned (.bool (canW l)) ∧ Below w.heap.size w w' := by
 have HT := Lib.hid (fun W => trimPrefix_any l [45] W)
 have hdl : (Lib.trimPrefix l [45]).length ≤ 100000 := by
  unfold Lib.trimPrefix
  split
  ·rw [List.length_drop]; omega
  ·exact hl
 unfold canW
 generalize Lib.trimPrefix l [45] = d at *
 have HOUT : Box (canWd l d = (d.all digB && (l == [48] || (!d.isEmpty && decide ((d[0]?.getD 0).toNat ≠ 48))))) := ⟨rfl⟩
 generalize canWd l d = out at *
 have hx := ba_first d
 generalize hc0 : d[0]?.getD 0 = c at *
 clear hc0
 go_enter Tryz.func214, Tryz.ntmps214
 go_wp2_with fail
 refine (HT.out _).mono ?_
 rintro e w1 ⟨rfl, hb1⟩
 go_wp2_with (refine wpList_bytes _ rfl _ _ _ rfl 5 Tryz.underlying9 Tryz.underlying22 Tryz.underlying5 _ rfl d (mk_toList d) ?_; intro cap w2 hb2 hr2)
 replace hb2 := hb1.trans (hb2.mono hb1.size)
 go_loop [11] (fun i => ∃ k : Nat, k ≤ d.length ∧ i = .int .i64 k ∧ Box ((d.take k).all digB = true)) (fun i => d.length - (intOf i).toNat)
 case atStart => exact ⟨0, Nat.zero_le _, rfl, ⟨rfl⟩⟩
 case round =>
  obtain ⟨k, hk, rfl, HD⟩ := hrel
  by_cases hlt : k < d.length
  ·have hcell : w2.cell? ⟨w1.heap.size, k, Option.none⟩ = some (.int .u8 (((d[k]?.getD 0).toNat : Nat) : Int)) := by
    obtain ⟨ad, e, _, hc⟩ := hr2.b_at hlt
    injection e with e
    subst e
    rw [addr0] at hc
    exact hc
   have HB : Hid (digB (d[k]?.getD 0) = false → out = false) := Lib.hid fun h => by
    have : d.all digB = false := by
     rw [List.all_eq_false]
     exact ⟨d[k], List.getElem_mem hlt, by rw [List.getElem?_eq_getElem hlt] at h; simpa using h⟩
    rw [HOUT.out, this]; rfl
   have HSU := Lib.hid (all_succ (l := d) (k := k) hlt)
   have HDB : Box (digB (d[k]?.getD 0) = decide (48 ≤ (d[k]?.getD 0).toNat ∧ (d[k]?.getD 0).toNat ≤ 57)) := ⟨rfl⟩
   generalize d[k]?.getD 0 = ck at *
   clear hr2
   by_cases hc1 : ck.toNat < 48
   ·go_wp2
    go_ret
    exact ⟨by rw [HB.out (by rw [HDB.out]; simp; omega)]; rfl, hb2⟩
   ·by_cases hc2 : 57 < ck.toNat
    ·go_wp2
     go_ret
     exact ⟨by rw [HB.out (by rw [HDB.out]; simp; omega)]; rfl, hb2⟩
    ·go_wp2
     go_round
     case rel => exact ⟨k + 1, by omega, by go_num, ⟨by rw [HSU.out, HD.out, HDB.out]; simp; omega⟩⟩
     case measure => simp [intOf]; omega
  ·obtain rfl : k = d.length := by omega
   clear hr2
   have hall : d.all digB = true := by have := HD.out; rw [List.take_of_length_le (Nat.le_refl _)] at this; exact this
   have HO2 : Box (out = (l == [48] || (!d.isEmpty && decide (c.toNat ≠ 48)))) := ⟨by rw [HOUT.out, hall]; rfl⟩
   clear hall
   cases hz : (l == [48]) with
   | true =>
     go_wp2_with fail
     go_ret
     exact ⟨by rw [HO2.out, hz]; rfl, hb2⟩
   | false =>
     cases he : d.isEmpty with
     | true =>
       go_wp2_with fail
       go_ret
       exact ⟨by rw [HO2.out, hz, he]; rfl, hb2⟩
     | false =>
       have hd0 : 0 < d.length := by cases d with | nil => cases he | cons _ _ => simp
       by_cases h48 : c.toNat = 48
       ·have hc3 : ((c.toNat : Int) != 48) = false := by rw [h48]; rfl
        go_wp2_with fail
        go_ret
        exact ⟨by rw [HO2.out, hz, he, decide_eq_false (fun h => h h48)]; rfl, hb2⟩
       ·have hc3 : ((c.toNat : Int) != 48) = true := by rw [bne_iff_ne]; omega
        go_wp2_with fail
        go_ret
        exact ⟨by rw [HO2.out, hz, he, decide_eq_true h48]; rfl, hb2⟩
theorem notCanonW (l : List UInt8) (w : World) (hl : l.length ≤ 100000) :
  Calls Tryz.prog 213 #[.string ⟨l.toArray⟩] w fun e w' => e = .returned (.bool (!canW l)) ∧ Below w.heap.size w w' := by
 have HC := Lib.hid (fun W => canonicalW_any l W hl)
 generalize canW l = b at *
 cases b
 all_goals
  go_enter Tryz.func213, Tryz.ntmps213
  go_wp2_with fail
  refine (HC.out _).mono ?_
  rintro e w1 ⟨rfl, hb1⟩
  go_wp2_with fail
  go_ret
  exact ⟨rfl, hb1⟩
def TextsAt (w : World) (b : Nat) (ws : List (List UInt8)) : Prop := b < w.heap.size ∧ ∀ k, k < ws.length → w.cell? ⟨b, k, Option.none⟩ = some (.string ⟨(ws[k]?.getD []).toArray⟩)
theorem TextsAt.below {w w' : World} {b : Nat} {ws : List (List UInt8)} (h : TextsAt w b ws) (hb : Below w.heap.size w w') : TextsAt w' b ws :=
 ⟨Nat.lt_of_lt_of_le h.1 hb.size, fun k hk => (hb.cell h.1).trans (h.2 k hk)⟩
set_option maxRecDepth 100000 in
set_option maxHeartbeats 1000000 in
theorem indexTexts (b : Nat) (ws : List (List UInt8)) (w : World) (hw : TextsAt w b ws) (hx : ∀ k, k < ws.length → (ws[k]?.getD []).length ≤ 100000) (hn : ws.length ≤ 100000) :
  Calls Tryz.prog 250 #[.slice (some ⟨b, 0, Option.none⟩) ws.length ws.length, .func (.func 213) #[] #[]] w fun e w' => ∃ i : Int, e = .returned (.int .i64 i) ∧ decide (0 ≤ i) = ws.any (fun l => !canW l) ∧ Below w.heap.size w w' := by
 have HW := Lib.hid hw
 have HX : Box (∀ k, k < ws.length → (ws[k]?.getD []).length ≤ 100000) := ⟨hx⟩
 clear hw hx
 go_enter Tryz.func250, Tryz.ntmps250
 go_wp2_with fail
 go_loopw [8] (fun i wr => ∃ k : Nat, k ≤ ws.length ∧ i = .int .i64 k ∧ Box ((ws.take k).any (fun l => !canW l) = false) ∧ Below w.heap.size w wr) (fun i _ => ws.length - (intOf i).toNat)
 case atStart => exact ⟨0, Nat.zero_le _, rfl, ⟨rfl⟩, Below.refl _ _⟩
 case round =>
  obtain ⟨k, hk, rfl, HN, hbw⟩ := hrel
  by_cases hlt : k < ws.length
  ·have hc := (HW.out.below hbw).2 k hlt
   have HF := Lib.hid (fun W => notCanonW (ws[k]?.getD []) W (HX.out k hlt))
   have HS : Box ((ws.take (k + 1)).any (fun l => !canW l) = ((ws.take k).any (fun l => !canW l) || !canW (ws[k]?.getD []))) := ⟨by
    rw [List.take_succ_eq_append_getElem hlt, List.any_append, List.getElem?_eq_getElem hlt]; simp⟩
   have HA : Hid (canW (ws[k]?.getD []) = false → ws.any (fun l => !canW l) = true) := Lib.hid fun h => by
    rw [List.any_eq_true]
    exact ⟨ws[k], List.getElem_mem hlt, by rw [List.getElem?_eq_getElem hlt] at h; simpa using h⟩
   generalize ws[k]?.getD [] = l at *
   cases hcw : canW l with
   | true =>
     rw [hcw] at HF HS
     go_wp2_with fail
     refine (HF.out _).mono ?_
     rintro e w1 ⟨rfl, hb1⟩
     go_wp2_with fail
     go_roundw
     case rel => exact ⟨k + 1, by omega, by go_num, ⟨by rw [HS.out, HN.out]; rfl⟩, hbw.trans (hb1.mono hbw.size)⟩
     case measure => simp [intOf]; omega
   | false =>
     have HA2 := Lib.hid (HA.out hcw)
     rw [hcw] at HF
     go_wp2_with fail
     refine (HF.out _).mono ?_
     rintro e w1 ⟨rfl, hb1⟩
     go_wp2_with fail
     go_ret
     exact ⟨_, rfl, by rw [HA2.out]; simp, hbw.trans (hb1.mono hbw.size)⟩
  ·obtain rfl : k = ws.length := by omega
   have HE : Box (ws.any (fun l => !canW l) = false) := ⟨by have := HN.out; rw [List.take_of_length_le (Nat.le_refl _)] at this; exact this⟩
   go_wp2_with fail
   go_ret
   exact ⟨_, rfl, by rw [HE.out]; rfl, hbw⟩
theorem idx1_none (b : UInt8) : ∀ (l : List UInt8), (∀ c ∈ l, c ≠ b) → Lib.index l [b] = -1
 | [], _ => rfl
 | c :: t, h => by
   have hc : c ≠ b := h c (by simp)
   have h1 : ([b] : List UInt8).isPrefixOf (c :: t) = false := by simp [List.isPrefixOf, Ne.symm hc]
   rw [Lib.index, h1, idx1_none b t (fun x hx => h x (by simp [hx]))]
   rfl
theorem idx1_at (b : UInt8) : ∀ (l r : List UInt8), (∀ c ∈ l, c ≠ b) → Lib.index (l ++ b :: r) [b] = l.length
 | [], r, _ => by rw [List.nil_append, Lib.index, if_pos (by simp [List.isPrefixOf])]; rfl
 | c :: t, r, h => by
   have hc : c ≠ b := h c (by simp)
   have h1 : ([b] : List UInt8).isPrefixOf (c :: (t ++ b :: r)) = false := by simp [List.isPrefixOf, Ne.symm hc]
   have h2 := idx1_at b t r (fun x hx => h x (by simp [hx]))
   rw [List.cons_append, Lib.index, h1, h2, if_neg (by decide), if_neg (by rw [beq_iff_eq]; omega), List.length_cons]
   rfl
theorem joinC_more (b : UInt8) (x y : List UInt8) (r : List (List UInt8)) : Lib.join (x :: y :: r) [b] = x ++ b :: Lib.join (y :: r) [b] := by
 simp [Lib.join, List.intercalate]
theorem split_joinC (b : UInt8) : ∀ (ws : List (List UInt8)), ws ≠ [] → (∀ l ∈ ws, ∀ c ∈ l, c ≠ b) → Lib.count (Lib.join ws [b]) [b] + 1 = ws.length ∧ Lib.splitK [b] 0 (Lib.count (Lib.join ws [b]) [b]) (Lib.join ws [b]) = ws
 | [], h, _ => absurd rfl h
 | [x], _, h => by
   have hi := idx1_none b x (h x (by simp))
   rw [Lib.join_one, Lib.count_miss hi]
   exact ⟨rfl, rfl⟩
 | x :: y :: r, _, h => by
   obtain ⟨i1, i2⟩ := split_joinC b (y :: r) (by simp) (fun l hl => h l (by simp at hl ⊢; right; exact hl))
   have hi := idx1_at b x (Lib.join (y :: r) [b]) (h x (by simp))
   have hdrop : (x ++ b :: Lib.join (y :: r) [b]).drop (x.length + 1) = Lib.join (y :: r) [b] := by
    rw [show x ++ b :: Lib.join (y :: r) [b] = (x ++ [b]) ++ Lib.join (y :: r) [b] by simp, List.drop_left' (by simp)]
   have hcnt : Lib.count (x ++ b :: Lib.join (y :: r) [b]) [b] = Lib.count (Lib.join (y :: r) [b]) [b] + 1 := by
    have := Lib.count_hit (s := x ++ b :: Lib.join (y :: r) [b]) (sub := [b]) (by simp) hi
    rw [this, show ([b] : List UInt8).length = 1 from rfl, hdrop]; omega
   rw [joinC_more, hcnt]
   refine ⟨by rw [i1]; simp, ?_⟩
   rw [Lib.splitK, hi, if_neg (by rw [beq_iff_eq]; omega), Int.toNat_natCast, show ([b] : List UInt8).length = 1 from rfl, hdrop, i2, Nat.add_zero, List.take_left' rfl]
theorem splitB_joinC (b : UInt8) (ws : List (List UInt8)) (h0 : ws ≠ []) (h : ∀ l ∈ ws, ∀ c ∈ l, c ≠ b) : Lib.countB ⟨(Lib.join ws [b]).toArray⟩ ⟨#[b]⟩ + 1 = ws.length ∧ Lib.splitB ⟨#[b]⟩ 0 (Lib.countB ⟨(Lib.join ws [b]).toArray⟩ ⟨#[b]⟩) ⟨(Lib.join ws [b]).toArray⟩ = ws.map (fun l => ⟨l.toArray⟩) := by
 obtain ⟨h1, h2⟩ := split_joinC b ws h0 h
 refine ⟨h1, ?_⟩
 have h3 := Lib.splitB_data ⟨#[b]⟩ 0 (Lib.countB ⟨(Lib.join ws [b]).toArray⟩ ⟨#[b]⟩) ⟨(Lib.join ws [b]).toArray⟩
 have h4 : (Lib.splitB ⟨#[b]⟩ 0 (Lib.countB ⟨(Lib.join ws [b]).toArray⟩ ⟨#[b]⟩) ⟨(Lib.join ws [b]).toArray⟩).map (·.data.toList) = ws := h3.trans h2
 have h5 := congrArg (List.map (fun l : List UInt8 => (⟨l.toArray⟩ : ByteArray))) h4
 rw [List.map_map] at h5
 rw [← h5]
 conv => lhs; rw [← List.map_id (Lib.splitB ⟨#[b]⟩ 0 (Lib.countB ⟨(Lib.join ws [b]).toArray⟩ ⟨#[b]⟩) ⟨(Lib.join ws [b]).toArray⟩)]
 rfl
def cutAll (b : UInt8) : List UInt8 → List (List UInt8)
 | [] => [[]]
 | x :: t => if x = b then [] :: cutAll b t else
   match cutAll b t with
   | [] => [[x]]
   | a :: r => (x :: a) :: r
theorem cutAll_ne (b : UInt8) : ∀ l, cutAll b l ≠ []
 | [] => by simp [cutAll]
 | x :: t => by
   unfold cutAll
   split
   ·simp
   ·split <;> simp
theorem cutAll_hit (b : UInt8) (t : List UInt8) : cutAll b (b :: t) = [] :: cutAll b t := by rw [cutAll, if_pos rfl]
theorem cutAll_miss {b x : UInt8} (h : x ≠ b) {t a : List UInt8} {r : List (List UInt8)} (e : cutAll b t = a :: r) : cutAll b (x :: t) = (x :: a) :: r := by rw [cutAll, if_neg h, e]
theorem cutAll_free (b : UInt8) : ∀ l, ∀ p ∈ cutAll b l, ∀ c ∈ p, c ≠ b
 | [] => by simp [cutAll]
 | x :: t => by
   have ih := cutAll_free b t
   by_cases h : x = b
   ·subst h
    rw [cutAll_hit]
    intro p hp
    rcases List.mem_cons.1 hp with rfl | hp
    ·simp
    ·exact ih p hp
   ·cases e : cutAll b t with
    | nil => exact absurd e (cutAll_ne b t)
    | cons a r =>
      rw [cutAll_miss h e]
      rw [e] at ih
      intro p hp
      rcases List.mem_cons.1 hp with rfl | hp
      ·intro c hc
       rcases List.mem_cons.1 hc with rfl | hc
       ·exact h
       ·exact ih a (by simp) c hc
      ·exact ih p (by simp [hp])
theorem join_cutAll (b : UInt8) : ∀ l, Lib.join (cutAll b l) [b] = l
 | [] => by rw [cutAll, Lib.join_one]
 | x :: t => by
   have ih := join_cutAll b t
   by_cases h : x = b
   ·subst h
    rw [cutAll_hit]
    cases e : cutAll x t with
    | nil => exact absurd e (cutAll_ne x t)
    | cons a r => rw [joinC_more, ← e, ih]; rfl
   ·cases e : cutAll b t with
    | nil => exact absurd e (cutAll_ne b t)
    | cons a r =>
      rw [cutAll_miss h e]
      rw [e] at ih
      cases r with
      | nil => rw [Lib.join_one] at ih ⊢; rw [ih]
      | cons y r => rw [joinC_more] at ih ⊢; rw [List.cons_append, ih]
theorem cutAll_len (b : UInt8) : ∀ l, (cutAll b l).length ≤ l.length + 1
 | [] => by simp [cutAll]
 | x :: t => by
   have ih := cutAll_len b t
   by_cases h : x = b
   ·subst h; rw [cutAll_hit]; simp; omega
   ·cases e : cutAll b t with
    | nil => exact absurd e (cutAll_ne b t)
    | cons a r => rw [cutAll_miss h e]; rw [e] at ih; simp at ih ⊢; omega
theorem cutAll_piece (b : UInt8) : ∀ l, ∀ p ∈ cutAll b l, p.length ≤ l.length
 | [] => by simp [cutAll]
 | x :: t => by
   have ih := cutAll_piece b t
   by_cases h : x = b
   ·subst h
    rw [cutAll_hit]
    intro p hp
    rcases List.mem_cons.1 hp with rfl | hp
    ·simp
    ·have := ih p hp; simp; omega
   ·cases e : cutAll b t with
    | nil => exact absurd e (cutAll_ne b t)
    | cons a r =>
      rw [cutAll_miss h e]
      rw [e] at ih
      intro p hp
      rcases List.mem_cons.1 hp with rfl | hp
      ·have := ih a (by simp); simp; omega
      ·have := ih p (by simp [hp]); simp; omega
theorem splitAt_any (b : UInt8) (s : List UInt8) (m : Int) (w : World) (hs : s.length < 4294967281) (hm : w.cell? ⟨0, 0, Option.none⟩ = some (.int .i64 m)) :
  Calls Tryz.prog 76 #[.string ⟨s.toArray⟩, .string ⟨#[b]⟩] w fun e w' => ∃ B, e = .returned (.slice (some ⟨B, 0, Option.none⟩) (cutAll b s).length (cutAll b s).length) ∧ TextsAt w' B (cutAll b s) ∧ Below w.heap.size w w' := by
 obtain ⟨h1, h2⟩ := splitB_joinC b (cutAll b s) (cutAll_ne b s) (cutAll_free b s)
 rw [join_cutAll] at h1 h2
 refine (split_run s [b] m w hs hm (by simp)).mono fun e w' ⟨he, hw⟩ => ⟨w.heap.size, ?_, ?_, ?_⟩
 ·rw [he]
  show Ending.returned (.slice _ (Lib.countB ⟨s.toArray⟩ ⟨#[b]⟩ + 1) (Lib.countB ⟨s.toArray⟩ ⟨#[b]⟩ + 1)) = _
  rw [h1]
 ·have hw' : w' = w.alloc (.cells (((cutAll b s).map (fun l => (⟨l.toArray⟩ : ByteArray))).map Value.string).toArray 9) := by rw [← h2]; exact hw
  rw [hw']
  have hc := Cells.new w 9 (((cutAll b s).map (fun l => (⟨l.toArray⟩ : ByteArray))).map Value.string).toArray
  refine ⟨hc.lt, fun k hk => ?_⟩
  have := hc.cell k
  rw [this]
  simp [List.getElem?_map, List.getElem?_eq_getElem hk]
 ·rw [hw]; exact (Below.refl _ _).alloc (Nat.le_refl _) _
def valW (l : List UInt8) : Int := if Lib.hasPrefix l [45] then -((dval 0 (l.drop 1) : Nat) : Int) else ((dval 0 l : Nat) : Int)
theorem canW_itoa {l : List UInt8} (h : canW l = true) : l = itoa (valW l) := by
 unfold canW canWd at h
 rw [Bool.and_eq_true] at h
 obtain ⟨hd, hr⟩ := h
 by_cases h48 : l = [48]
 ·subst h48
  rw [show valW [48] = ((0 : Nat) : Int) by unfold valW; rw [if_neg (by decide), dval_cons, dval_nil, dgv_eq]; rfl, itoa_nat, dec_small (by omega)]
  rfl
 ·rw [show (l == [48]) = false by simpa using h48, Bool.false_or, Bool.and_eq_true] at hr
  obtain ⟨hne, h0⟩ := hr
  have h0' := of_decide_eq_true h0
  have hcn : ∀ d : List UInt8, d.all digB = true → d.isEmpty = false → (d[0]?.getD 0).toNat ≠ 48 → d = decDigits (dval 0 d) ∧ 0 < dval 0 d := by
   intro d hd hne h0
   have hcb : canonB d = true := by
    refine canon_good hd ?_
    cases d with
    | nil => cases hne
    | cons c t =>
      cases t with
      | nil => exact .inl rfl
      | cons _ _ => exact .inr ⟨by simp, h0⟩
   obtain ⟨n, hn⟩ := (canonB_iff _).1 hcb
   have hv : dval 0 d = n := by rw [hn, dval_dec]
   rw [hv]
   refine ⟨hn, ?_⟩
   rcases Nat.eq_zero_or_pos n with hz | hz
   ·subst hz
    rw [dec_small (by omega)] at hn
    rw [hn] at h0
    exact absurd rfl h0
   ·exact hz
  unfold valW
  cases hp : Lib.hasPrefix l [45] with
  | false =>
    rw [trim_no hp] at hd hne h0'
    rw [if_neg (by decide), itoa_nat]
    exact (hcn l hd (by simpa using hne) h0').1
  | true =>
    rw [if_pos rfl]
    have e : Lib.trimPrefix l [45] = l.drop 1 := by unfold Lib.trimPrefix; rw [hp]; rfl
    rw [e] at hd hne h0'
    obtain ⟨e2, hpos⟩ := hcn _ hd (by simpa using hne) h0'
    rw [itoa_neg _ hpos, ← e2]
    unfold Lib.hasPrefix at hp
    cases l with
    | nil => cases hp
    | cons c t =>
      simp [List.isPrefixOf] at hp
      rw [← hp]; rfl
theorem atoi_any (z : Int) (w : World) (h1 : -9223372036854775808 ≤ z) (h2 : z ≤ 9223372036854775807) (hl : (itoa z).length ≤ 100000) :
  Calls Tryz.prog 183 #[.string ⟨(itoa z).toArray⟩] w fun e w' => e = .returned (.tuple #[.int .i64 z, .nilIface]) ∧ Below w.heap.size w w' :=
 (Tryz.strconv_Atoi_ok ⟨(itoa z).toArray⟩ (by simp [ByteArray.size]; omega) z (by simpa using atoi_itoa z h1 h2) w).mono fun _ _ ⟨h, hw⟩ => ⟨h, bytes_below' hw⟩
theorem parse_over (l : List UInt8) : ∀ acc, (∀ c ∈ l, isDig c) → acc < 18446744073709551616 → 18446744073709551616 ≤ dval acc l → parseUint10 acc l = .range := by
 induction l with
 | nil => intro acc _ h1 h2; rw [dval_nil] at h2; omega
 | cons c l ih =>
   intro acc hd ha hb
   have hc := hd c (by simp)
   have hc2 := dgv_lt hc
   simp only [dval_cons] at hb
   simp only [parseUint10]
   rw [← dgv_eq]
   rw [if_pos (show 48 ≤ c.toNat ∧ c.toNat ≤ 57 from hc), Nat.mul_comm acc 10]
   by_cases h1 : 1844674407370955162 ≤ acc
   ·rw [if_pos (by omega)]
   ·rw [if_neg (by omega)]
    by_cases h2 : 18446744073709551616 ≤ 10 * acc + dgv c
    ·rw [if_pos (by omega)]
    ·rw [if_neg (by omega)]
     exact ih _ (fun x hx => hd x (by simp [hx])) (by omega) hb
theorem parseMag_over {n : Nat} (h : 18446744073709551616 ≤ n) : parseMag (decDigits n) = .range := by
 unfold parseMag
 rw [if_neg (dec_ne_nil n), parse_over _ 0 (dec_dig n) (by omega) (by rw [dval_dec]; exact h)]
theorem atoi_over {z : Int} (h : z < -9223372036854775808 ∨ 9223372036854775807 < z) : atoiAll (itoa z) = .range := by
 rcases itoa_cases z with ⟨hz, e⟩ | ⟨hz, e⟩
 ·rw [e]
  simp only [atoiAll]
  simp only [show (45 : UInt8).toNat = 45 from rfl, or_true, if_true]
  by_cases h64 : z.natAbs < 18446744073709551616
  ·rw [parseMag_dec h64]
   simp only []
   rw [if_neg (by simp), if_pos (by simp; omega)]
  ·rw [parseMag_over (by omega)]
 ·rw [e]
  have hd := dec_dig z.natAbs
  have hm : parseMag (decDigits z.natAbs) = .range ∨ parseMag (decDigits z.natAbs) = .ok z.natAbs := by
   by_cases h64 : z.natAbs < 18446744073709551616
   ·exact .inr (parseMag_dec h64)
   ·exact .inl (parseMag_over (by omega))
  generalize hl : decDigits z.natAbs = l at hm hd
  match l, hm, hd with
  | [], hm, _ => exact absurd hl (dec_ne_nil _)
  | c :: r, hm, hd =>
    have hc := hd c (by simp)
    have hc2 := dgv_lt hc
    unfold isDig at hc
    simp only [atoiAll]
    rw [if_neg (by omega)]
    rcases hm with hm | hm
    ·rw [hm]
    ·rw [hm]
     simp only []
     rw [if_pos ⟨by omega, by omega⟩]
theorem atoi_over_any (z : Int) (w : World) (hS : Std w) (h : z < -9223372036854775808 ∨ 9223372036854775807 < z) (hl : (itoa z).length ≤ 100000) :
  Calls Tryz.prog 183 #[.string ⟨(itoa z).toArray⟩] w fun e w' => ∃ v t p, e = .returned (.tuple #[.int .i64 v, .iface t p]) ∧ Below w.heap.size w w' := by
 obtain ⟨te, pe, hc⟩ := hS.rng
 refine (Tryz.strconv_Atoi_range ⟨(itoa z).toArray⟩ (by simp [ByteArray.size]; omega) (by simpa using atoi_over h) (.iface te pe) w hc (.inr ⟨te, pe, rfl⟩)).mono ?_
 rintro e w' ⟨n, rfl, _, _, hb⟩
 exact ⟨_, _, _, rfl, hb⟩
theorem rowChk_fits {x : List Int} (h : rowChk x = 0) (k : Nat) (hk : k < x.length) : -1000000000 ≤ x[k]?.getD 0 ∧ x[k]?.getD 0 ≤ 1000000000 := by
 unfold rowChk at h
 split at h
 ·cases h
 ·rename_i hn
  have hn2 : x.any (fun v => !fitsB v) = false := by
   cases hx : x.any (fun v => !fitsB v) with
   | false => rfl
   | true => exact absurd (.inr hx) hn
  have h2 := List.any_eq_false.1 hn2 _ (List.getElem_mem hk)
  rw [List.getElem?_eq_getElem hk]
  unfold fitsB at h2
  simp at h2
  exact ⟨h2.1, h2.2⟩
inductive Rrd where
 | bad (e : Int)
 | good (x : List Int) (k : Bool)
def innerRead (l : List UInt8) (k : Bool) : Rrd :=
 if l.isEmpty then .good [] k
 else if (cutAll 32 l).any (fun l => !canW l) then .bad 15
 else if rowChk ((cutAll 32 l).map valW) = 0 then .good ((cutAll 32 l).map valW) k else .bad 4
def endRead (l : List UInt8) (k : Bool) : Rrd :=
 if Lib.hasSuffix l [if k then 62 else 93] then innerRead (Lib.trimSuffix l [if k then 62 else 93]) k else .bad 15
def rowRead (s : List UInt8) : Rrd :=
 if 65536 < s.length then .bad 16
 else if Lib.hasPrefix s [91] then endRead (Lib.trimPrefix s [91]) true
 else if Lib.hasPrefix s [60] then endRead (Lib.trimPrefix s [60]) false
 else .bad 15
def TRow (w : World) (v : Value) (x : List Int) : Prop := ∃ A c, v = .slice A x.length c ∧ x.length ≤ c ∧ c ≤ maxLen ∧ (0 < x.length → ∃ g o cur p, A = some ⟨g, o, Option.none⟩ ∧ w.heap[g]? = some (Obj.cells cur 3 p) ∧ ∀ k, k < x.length → w.cell? ⟨g, o + k, Option.none⟩ = some (.int .i64 (x[k]?.getD 0)))
theorem TRow.isRow {w : World} {v : Value} {x : List Int} (h : TRow w v x) : IsRow w w.heap.size v x := by
 obtain ⟨A, c, rfl, h1, h2, h3⟩ := h
 refine ⟨A, c, rfl, h1, h2, by simp [is], fun k u hk => ?_⟩
 have hkl : k < x.length := by
  have := (List.getElem?_eq_some_iff.1 hk).1
  simpa [is] using this
 obtain ⟨g, o, cur, p, rfl, hg, hc⟩ := h3 (by omega)
 refine ⟨_, rfl, (Array.getElem?_eq_some_iff.1 hg).1, ?_⟩
 rw [Lib.add_plain, hc k hkl]
 unfold is at hk
 rw [List.getElem?_map, List.getElem?_eq_getElem hkl] at hk
 rw [List.getElem?_eq_getElem hkl]
 exact hk
theorem TRow.keep {w w' : World} {v : Value} {x : List Int} (h : TRow w v x) (hk : ∀ (g : Nat) (cur : Array Value) (p : Nat × Nat), w.heap[g]? = some (Obj.cells cur 3 p) → w'.heap[g]? = w.heap[g]?) : TRow w' v x := by
 obtain ⟨A, c, rfl, h1, h2, h3⟩ := h
 refine ⟨A, c, rfl, h1, h2, fun h0 => ?_⟩
 obtain ⟨g, o, cur, p, rfl, hg, hc⟩ := h3 h0
 have he := hk g cur p hg
 exact ⟨g, o, cur, p, rfl, he.trans hg, fun k hk => (World.cell?_of_block he).trans (hc k hk)⟩
theorem TRow.below {w w' : World} {v : Value} {x : List Int} (h : TRow w v x) (hb : Below w.heap.size w w') : TRow w' v x := h.keep fun _ _ _ hg => hb.block _ (Array.getElem?_eq_some_iff.1 hg).1
theorem TRow.grown {w w' : World} {v : Value} {x : List Int} (h : TRow w v x) {base n size : Nat} {e : TypeId} {u : Value} {xs : List Value} (ho : w.ownsRow base e size u n xs) (hg : w.grownBy w' u.ownBlock) (he : e ≠ 3) : TRow w' v x := h.keep fun g cur p hc => hg.block g (Array.getElem?_eq_some_iff.1 hc).1 fun hu => by
 rcases ho.2 with ⟨rfl, _⟩ | ⟨g', cap, cur', rfl, _, hg', _⟩
 ·cases hu
 ·injection hu with hu
  change g = g' at hu
  subst hu
  rw [hc] at hg'
  injection hg' with hg'
  injection hg' with _ hg' _
  exact he hg'.symm
theorem TRow.of_own {w : World} {base : Nat} {v : Value} {x : List Int} (h : w.ownsRow base 3 1 v x.length (is x)) : TRow w v x := by
 obtain ⟨A, c, rfl, h1, h2, hr⟩ := Row.of_own h
 refine ⟨A, c, rfl, h1, h2, fun h0 => ?_⟩
 rcases h.2 with ⟨_, hn⟩ | ⟨g, cap, cur, e, _, hg, _⟩
 ·omega
 ·injection e with e _ _
  subst e
  refine ⟨g, 0, cur, (0, 0), rfl, hg, fun k hk => ?_⟩
  obtain ⟨ad, e, _, hc⟩ := hr.i_at hk
  injection e with e
  subst e
  rw [Lib.add_plain] at hc
  exact hc
theorem TRow.nil (w : World) (A : Option Addr) (c : Nat) (h : c ≤ maxLen) : TRow w (.slice A 0 c) [] := ⟨A, c, rfl, Nat.zero_le _, h, fun h => absurd h (by simp)⟩
def RrdPost (w' : World) : Rrd → Ending → Prop
 | .bad er, e => e = .returned (.tuple #[.slice Option.none 0 0, .bool false, .int .i64 er])
 | .good x k, e => ∃ A c, e = .returned (.tuple #[.slice A x.length c, .bool k, .int .i64 0]) ∧ TRow w' (.slice A x.length c) x
set_option maxRecDepth 100000 in
theorem containsTexts (b : Nat) (ws : List (List UInt8)) (w : World) (hw : TextsAt w b ws) (hx : ∀ k, k < ws.length → (ws[k]?.getD []).length ≤ 100000) (hn : ws.length ≤ 100000) :
  Calls Tryz.prog 212 #[.slice (some ⟨b, 0, Option.none⟩) ws.length ws.length, .func (.func 213) #[] #[]] w fun e w' => e = .returned (.bool (ws.any (fun l => !canW l))) ∧ Below w.heap.size w w' := by
 have HI := Lib.hid (indexTexts b ws w hw hx hn)
 generalize ws.any (fun l => !canW l) = o at *
 clear hw hx
 go_enter Tryz.func212, Tryz.ntmps212
 go_wp2_with fail
 refine HI.out.mono ?_
 rintro e w1 ⟨i, rfl, rfl, hb1⟩
 go_wp2_with fail
 go_ret
 exact ⟨rfl, hb1⟩
set_option maxRecDepth 100000 in
theorem rowParse_long (s : List UInt8) (w : World) (hl : 65536 < s.length) (hl2 : s.length ≤ 100000) :
  Calls Tryz.prog 175 #[.string ⟨s.toArray⟩] w fun e w' => RrdPost w' (.bad 16) e ∧ Below w.heap.size w w' := by
 go_enter Tryz.func175, Tryz.ntmps175
 go_wp2_with fail
 go_ret3
 exact ⟨rfl, Below.refl _ _⟩
set_option maxRecDepth 100000 in
set_option maxHeartbeats 1000000 in
theorem rowParse_none (s : List UInt8) (w : World) (hl : s.length ≤ 65536) (h1 : Lib.hasPrefix s [91] = false) (h2 : Lib.hasPrefix s [60] = false) :
  Calls Tryz.prog 175 #[.string ⟨s.toArray⟩] w fun e w' => RrdPost w' (.bad 15) e ∧ Below w.heap.size w w' := by
 have HC1 := Lib.hid (fun W => cutPrefix_any s [91] W)
 rw [h1] at HC1
 have HC2 := Lib.hid (fun W => cutPrefix_any s [60] W)
 rw [h2] at HC2
 have hli : (s.length : Int) ≤ 65536 := by omega
 have hbw := Below.refl w.heap.size w
 clear h1 h2 hl
 generalize Lib.trimPrefix s [91] = t1 at *
 generalize Lib.trimPrefix s [60] = t2 at *
 go_enter Tryz.func175, Tryz.ntmps175
 go_wp2_with fail
 refine (HC1.out _).mono ?_
 rintro e wk1 ⟨rfl, hbk⟩
 replace hbw := hbw.trans (hbk.mono hbw.size)
 clear hbk
 go_wp2_with fail
 refine (HC2.out _).mono ?_
 rintro e wk2 ⟨rfl, hbk⟩
 replace hbw := hbw.trans (hbk.mono hbw.size)
 clear hbk
 go_wp2_with fail
 go_ret3
 exact ⟨rfl, hbw⟩
set_option maxRecDepth 100000 in
set_option maxHeartbeats 1000000 in
theorem rowParse_ket0 (s t : List UInt8) (w : World) (hl : s.length ≤ 65536) (hp : Lib.hasPrefix s [91] = true) (ht : Lib.trimPrefix s [91] = t) (htl : t.length ≤ s.length) (hs : Lib.hasSuffix t [62] = false) :
  Calls Tryz.prog 175 #[.string ⟨s.toArray⟩] w fun e w' => RrdPost w' (.bad 15) e ∧ Below w.heap.size w w' := by
 have HC := Lib.hid (fun W => cutPrefix_any s [91] W)
 rw [hp] at HC
 rw [ht] at HC
 have HU := Lib.hid (fun W => cutSuffix_any t [62] W (by omega))
 rw [hs] at HU
 have hli : (s.length : Int) ≤ 65536 := by omega
 have hbw := Below.refl w.heap.size w
 clear hp ht htl hs hl
 generalize Lib.trimSuffix t [62] = u at *
 go_enter Tryz.func175, Tryz.ntmps175
 go_wp2_with fail
 refine (HC.out _).mono ?_
 rintro e wk3 ⟨rfl, hbk⟩
 replace hbw := hbw.trans (hbk.mono hbw.size)
 clear hbk
 go_wp2_with fail
 refine (HU.out _).mono ?_
 rintro e wk4 ⟨rfl, hbk⟩
 replace hbw := hbw.trans (hbk.mono hbw.size)
 clear hbk
 go_wp2_with fail
 go_ret3
 exact ⟨rfl, hbw⟩
set_option maxRecDepth 100000 in
set_option maxHeartbeats 1000000 in
theorem rowParse_ket1 (s t : List UInt8) (w : World) (hl : s.length ≤ 65536) (hp : Lib.hasPrefix s [91] = true) (ht : Lib.trimPrefix s [91] = t) (htl : t.length ≤ s.length) (hs : Lib.hasSuffix t [62] = true) (hu : Lib.trimSuffix t [62] = []) :
  Calls Tryz.prog 175 #[.string ⟨s.toArray⟩] w fun e w' => RrdPost w' (.good [] true) e ∧ Below w.heap.size w w' := by
 have HC := Lib.hid (fun W => cutPrefix_any s [91] W)
 rw [hp] at HC
 rw [ht] at HC
 have HU := Lib.hid (fun W => cutSuffix_any t [62] W (by omega))
 rw [hs, hu] at HU
 have hli : (s.length : Int) ≤ 65536 := by omega
 have hbw := Below.refl w.heap.size w
 clear hp ht htl hs hu hl
 go_enter Tryz.func175, Tryz.ntmps175
 go_wp2_with fail
 refine (HC.out _).mono ?_
 rintro e wk5 ⟨rfl, hbk⟩
 replace hbw := hbw.trans (hbk.mono hbw.size)
 clear hbk
 go_wp2_with fail
 refine (HU.out _).mono ?_
 rintro e wk6 ⟨rfl, hbk⟩
 replace hbw := hbw.trans (hbk.mono hbw.size)
 clear hbk
 go_wp2_with fail
 go_ret3
 exact ⟨⟨_, _, rfl, TRow.nil _ _ _ (by unfold maxLen; omega)⟩, hbw.alloc hbw.size _⟩
set_option maxRecDepth 100000 in
set_option maxHeartbeats 1000000 in
theorem rowParse_ket2 (s t u : List UInt8) (w : World) (hL : LenIs w) (hl : s.length ≤ 65536) (hp : Lib.hasPrefix s [91] = true) (ht : Lib.trimPrefix s [91] = t) (htl : t.length ≤ s.length) (hs : Lib.hasSuffix t [62] = true) (hu : Lib.trimSuffix t [62] = u) (hul : u.length ≤ s.length) (hu0 : u.isEmpty = false) (hb : (cutAll 32 u).any (fun l => !canW l) = true) :
  Calls Tryz.prog 175 #[.string ⟨s.toArray⟩] w fun e w' => RrdPost w' (.bad 15) e ∧ Below w.heap.size w w' := by
 obtain ⟨m, hm⟩ := hL
 have HM := Lib.hid hm
 have HSP := Lib.hid (fun W hm => splitAt_any 32 u m W (by omega) hm)
 have HCW := Lib.hid (fun B W hw => containsTexts B (cutAll 32 u) W hw (fun k hk => by have := cutAll_piece 32 u _ (List.getElem_mem hk); rw [List.getElem?_eq_getElem hk]; simp only [Option.getD_some]; omega) (by have := cutAll_len 32 u; omega))
 rw [hb] at HCW
 have HC := Lib.hid (fun W => cutPrefix_any s [91] W)
 rw [hp] at HC
 rw [ht] at HC
 have HU := Lib.hid (fun W => cutSuffix_any t [62] W (by omega))
 rw [hs, hu] at HU
 have hli : (s.length : Int) ≤ 65536 := by omega
 have hcl : (cutAll 32 u).length ≤ 65537 := by have := cutAll_len 32 u; omega
 have hbw := Below.refl w.heap.size w
 clear hp ht htl hs hu hl hul hb hm
 generalize cutAll 32 u = ws at *
 go_enter Tryz.func175, Tryz.ntmps175
 go_wp2_with fail
 refine (HC.out _).mono ?_
 rintro e wk7 ⟨rfl, hbk⟩
 replace hbw := hbw.trans (hbk.mono hbw.size)
 clear hbk
 go_wp2_with fail
 refine (HU.out _).mono ?_
 rintro e wk8 ⟨rfl, hbk⟩
 replace hbw := hbw.trans (hbk.mono hbw.size)
 clear hbk
 go_wp2_with fail
 refine (HSP.out _ ((hbw.cell (cell_lt HM.out)).trans HM.out)).mono ?_
 rintro e w3 ⟨B, rfl, hww, hb2⟩
 replace hbw := hbw.trans (hb2.mono hbw.size)
 clear hb2
 have HW := Lib.hid hww
 clear hww
 go_wp2_with fail
 refine (HCW.out B _ HW.out).mono ?_
 rintro e wk9 ⟨rfl, hbk⟩
 replace hbw := hbw.trans (hbk.mono hbw.size)
 clear hbk
 go_wp2_with fail
 go_ret3
 exact ⟨rfl, hbw⟩
set_option maxRecDepth 100000 in
set_option maxHeartbeats 4000000 in
theorem rowParse_ket3 (s t u : List UInt8) (w : World) (hS : Std w) (hL : LenIs w) (hl : s.length ≤ 65536) (hp : Lib.hasPrefix s [91] = true) (ht : Lib.trimPrefix s [91] = t) (htl : t.length ≤ s.length) (hs : Lib.hasSuffix t [62] = true) (hu : Lib.trimSuffix t [62] = u) (hul : u.length ≤ s.length) (hu0 : u.isEmpty = false) (hb : (cutAll 32 u).any (fun l => !canW l) = false) :
  Calls Tryz.prog 175 #[.string ⟨s.toArray⟩] w fun e w' => RrdPost w' (if rowChk ((cutAll 32 u).map valW) = 0 then .good ((cutAll 32 u).map valW) true else .bad 4) e ∧ Below w.heap.size w w' := by
 obtain ⟨i0, hi0, hz0, hz1, hz2⟩ := info_parts Tryz.info_int
 obtain ⟨m, hm⟩ := hL
 have HM := Lib.hid hm
 have HS := Lib.hid hS
 have hpl : ∀ k, k < (cutAll 32 u).length → ((cutAll 32 u)[k]?.getD []).length ≤ 100000 := fun k hk => by have := cutAll_piece 32 u _ (List.getElem_mem hk); rw [List.getElem?_eq_getElem hk]; simp only [Option.getD_some]; omega
 have HSP := Lib.hid (fun W hm => splitAt_any 32 u m W (by omega) hm)
 have HCW := Lib.hid (fun B W hw => containsTexts B (cutAll 32 u) W hw hpl (by have := cutAll_len 32 u; omega))
 rw [hb] at HCW
 have HC := Lib.hid (fun W => cutPrefix_any s [91] W)
 rw [hp] at HC
 rw [ht] at HC
 have HU := Lib.hid (fun W => cutSuffix_any t [62] W (by omega))
 rw [hs, hu] at HU
 have hli : (s.length : Int) ≤ 65536 := by omega
 have hcl : (cutAll 32 u).length ≤ 65537 := by have := cutAll_len 32 u; omega
 have hbw := Below.refl w.heap.size w
 clear hp ht htl hs hu hl hul hm hS
 generalize cutAll 32 u = ws at *
 have HI : Box (∀ k, k < ws.length → ws[k]?.getD [] = itoa (valW (ws[k]?.getD []))) := ⟨fun k hk => canW_itoa (by
  have := List.any_eq_false.1 hb _ (List.getElem_mem hk)
  rw [List.getElem?_eq_getElem hk]
  simpa using this)⟩
 have HPL : Box (∀ k, k < ws.length → (ws[k]?.getD []).length ≤ 100000) := ⟨hpl⟩
 have HX : Box (∀ k, k < ws.length → (ws.map valW)[k]?.getD 0 = valW (ws[k]?.getD [])) := ⟨fun k hk => by rw [List.getElem?_map, List.getElem?_eq_getElem hk]; rfl⟩
 have HXL : Box ((ws.map valW).length = ws.length) := ⟨by simp⟩
 generalize ws.map valW = x at *
 have HOV : Box (∀ k, k < ws.length → (valW (ws[k]?.getD []) < -9223372036854775808 ∨ 9223372036854775807 < valW (ws[k]?.getD [])) → rowChk x ≠ 0) := ⟨fun k hk h hc => by
  have h2 := (rowChk_fits hc k (by have := HXL.out; omega))
  rw [HX.out k hk] at h2
  omega⟩
 have HRC := Lib.hid (fun v W hv => rowCheck_any v x W hv)
 have HE : Box (∀ w' e, (rowChk x = 0 → RrdPost w' (.good x true) e) → (rowChk x ≠ 0 → RrdPost w' (.bad 4) e) → RrdPost w' (if rowChk x = 0 then .good x true else .bad 4) e) := ⟨fun w' e h1 h2 => by
  split
  ·exact h1 (by assumption)
  ·exact h2 (by assumption)⟩
 have HR4 : Box (rowChk x = 0 ∨ rowChk x = 4) := ⟨by unfold rowChk; split <;> simp⟩
 clear hpl hb
 generalize hRD : (if rowChk x = 0 then Rrd.good x true else .bad 4) = rd at *
 clear hRD
 go_enter Tryz.func175, Tryz.ntmps175
 go_wp2_with fail
 refine (HC.out _).mono ?_
 rintro e wk10 ⟨rfl, hbk⟩
 replace hbw := hbw.trans (hbk.mono hbw.size)
 clear hbk
 go_wp2_with fail
 refine (HU.out _).mono ?_
 rintro e wk11 ⟨rfl, hbk⟩
 replace hbw := hbw.trans (hbk.mono hbw.size)
 clear hbk
 go_wp2_with fail
 refine (HSP.out _ ((hbw.cell (cell_lt HM.out)).trans HM.out)).mono ?_
 rintro e w3 ⟨B, rfl, hww, hb2⟩
 replace hbw := hbw.trans (hb2.mono hbw.size)
 clear hb2
 have HW := Lib.hid hww
 clear hww
 go_wp2_with fail
 refine (HCW.out B _ HW.out).mono ?_
 rintro e w4 ⟨rfl, hb2⟩
 replace hbw := hbw.trans (hb2.mono hbw.size)
 replace HW := Lib.hid (HW.out.below hb2)
 clear hb2
 replace HS := Lib.hid (HS.out.below hbw (Nat.le_refl _))
 go_wp2_with fail
 go_loopw [2, 3, 49] (fun o kt i wr => ∃ k : Nat, k ≤ ws.length ∧ kt = .bool true ∧ i = .int .i64 k ∧ wr.ownsRow w4.heap.size 3 1 o k (is (x.take k)) ∧ Below w4.heap.size w4 wr) (fun _ _ i _ => ws.length - (intOf i).toNat)
 case atStart => exact ⟨0, Nat.zero_le _, rfl, rfl, World.ownsRow_nil _ _ _ _, Below.refl _ _⟩
 case round =>
  obtain ⟨k, hk, rfl, rfl, hown, hbk⟩ := hrel
  have HO := Lib.hid hown
  clear hown
  by_cases hlt : k < ws.length
  ·have hc := (HW.out.below hbk).2 k hlt
   have hwk := HI.out k hlt
   have hpk := HPL.out k hlt
   have HOK := Lib.hid (HOV.out k hlt)
   have E3 : Box (x.take (k + 1) = x.take k ++ [valW (ws[k]?.getD [])]) := ⟨by have hxl := HXL.out; rw [← HX.out k hlt, List.take_succ_eq_append_getElem (by omega), List.getElem?_eq_getElem (by omega)]; rfl⟩
   rw [hwk] at hc hpk
   clear hwk
   generalize valW (ws[k]?.getD []) = z at *
   by_cases hr : -9223372036854775808 ≤ z ∧ z ≤ 9223372036854775807
   ·have HAk := Lib.hid (fun W => atoi_any z W hr.1 hr.2 hpk)
    clear hr hpk HOK
    generalize itoa z = l at *
    go_wp2_with fail
    refine (HAk.out _).mono ?_
    rintro e w5 ⟨rfl, hb5⟩
    have hown2 := own_below HO.out hb5
    have hw45 := hbk.trans (hb5.mono hbk.size)
    go_wp2_with (at_builtin; refine wpList_append_own _ rfl _ _ _ rfl w4.heap.size 3 i0 (.int .i64 0) 1 8 Tryz.underlying40 hi0 hz0 hz1 hz2 rfl (by decide) _ _ _ rfl (hown2.alloc _) ⟨w5.heap.size, 0, Option.none⟩ 1 1 [_] rfl rfl (cell_one_new _ _ _) (by intro u hu; simp at hu; subst hu; rfl) (by unfold maxLen; omega) (by omega) (by have := hw45.size; simp; omega) ?_; intro v3 w3 hown3 hg3 _)
    go_wp2
    go_roundw
    case rel =>
     refine ⟨k + 1, by omega, rfl, by go_num, ?_, ?_⟩
     ·rw [E3.out, is_append]; exact hown3
     ·exact (hw45.alloc (by have := hw45.size; omega) _).grown hg3 (by have := hw45.size; simp; omega) (fun k hk => (HO.out.lt k hk).1)
    case measure => simp [intOf]; omega
   ·have HAk := Lib.hid (fun W hW => atoi_over_any z W hW (by omega) hpk)
    have HBD := Lib.hid (HOK.out (by omega))
    clear hr hpk HOK
    generalize itoa z = l at *
    go_wp2_with fail
    refine (HAk.out _ (HS.out.below hbk (Nat.le_refl _))).mono ?_
    rintro e w5 ⟨v5, t5, p5, rfl, hb5⟩
    go_wp2_with fail
    go_ret3
    exact ⟨HE.out _ _ (fun h => absurd h HBD.out) (fun _ => rfl), hbw.trans ((hbk.trans (hb5.mono hbk.size)).mono hbw.size)⟩
  ·obtain rfl : k = ws.length := by omega
   have hex : wr.ownsRow w4.heap.size 3 1 u2 x.length (is x) := by have := HO.out; rw [← HXL.out, List.take_of_length_le (Nat.le_refl _)] at this; exact this
   have hti := TRow.of_own hex
   have hti' := hti
   obtain ⟨AX, cx, rfl, _⟩ := hti'
   have HTI := Lib.hid hti
   have HRI := Lib.hid hti.isRow
   clear hex hti
   rcases HR4.out with hr4 | hr4
   ·rw [hr4] at HRC
    go_wp2_with fail
    refine (HRC.out _ _ HRI.out).mono ?_
    rintro e w6 ⟨rfl, hb6⟩
    go_wp2_with fail
    go_ret3
    exact ⟨HE.out _ _ (fun _ => ⟨AX, cx, rfl, HTI.out.below hb6⟩) (fun h => absurd hr4 h), (hbw.trans (hbk.mono hbw.size)).trans (hb6.mono (Nat.le_trans hbw.size hbk.size))⟩
   ·rw [hr4] at HRC
    go_wp2_with fail
    refine (HRC.out _ _ HRI.out).mono ?_
    rintro e w6 ⟨rfl, hb6⟩
    go_wp2_with fail
    go_ret3
    exact ⟨HE.out _ _ (fun h => by omega) (fun _ => rfl), (hbw.trans (hbk.mono hbw.size)).trans (hb6.mono (Nat.le_trans hbw.size hbk.size))⟩
set_option maxRecDepth 100000 in
set_option maxHeartbeats 1000000 in
theorem rowParse_bra0 (s t : List UInt8) (w : World) (hl : s.length ≤ 65536) (hp0 : Lib.hasPrefix s [91] = false) (hp : Lib.hasPrefix s [60] = true) (ht : Lib.trimPrefix s [60] = t) (htl : t.length ≤ s.length) (hs : Lib.hasSuffix t [93] = false) :
  Calls Tryz.prog 175 #[.string ⟨s.toArray⟩] w fun e w' => RrdPost w' (.bad 15) e ∧ Below w.heap.size w w' := by
 have HC := Lib.hid (fun W => cutPrefix_any s [60] W)
 rw [hp] at HC
 have HC0 := Lib.hid (fun W => cutPrefix_any s [91] W)
 rw [hp0] at HC0
 generalize Lib.trimPrefix s [91] = t0 at *
 rw [ht] at HC
 have HU := Lib.hid (fun W => cutSuffix_any t [93] W (by omega))
 rw [hs] at HU
 have hli : (s.length : Int) ≤ 65536 := by omega
 have hbw := Below.refl w.heap.size w
 clear hp hp0 ht htl hs hl
 generalize Lib.trimSuffix t [93] = u at *
 go_enter Tryz.func175, Tryz.ntmps175
 go_wp2_with fail
 refine (HC0.out _).mono ?_
 rintro e wk12 ⟨rfl, hbk⟩
 replace hbw := hbw.trans (hbk.mono hbw.size)
 clear hbk
 go_wp2_with fail
 refine (HC.out _).mono ?_
 rintro e wk13 ⟨rfl, hbk⟩
 replace hbw := hbw.trans (hbk.mono hbw.size)
 clear hbk
 go_wp2_with fail
 refine (HU.out _).mono ?_
 rintro e wk14 ⟨rfl, hbk⟩
 replace hbw := hbw.trans (hbk.mono hbw.size)
 clear hbk
 go_wp2_with fail
 go_ret3
 exact ⟨rfl, hbw⟩
set_option maxRecDepth 100000 in
set_option maxHeartbeats 1000000 in
theorem rowParse_bra1 (s t : List UInt8) (w : World) (hl : s.length ≤ 65536) (hp0 : Lib.hasPrefix s [91] = false) (hp : Lib.hasPrefix s [60] = true) (ht : Lib.trimPrefix s [60] = t) (htl : t.length ≤ s.length) (hs : Lib.hasSuffix t [93] = true) (hu : Lib.trimSuffix t [93] = []) :
  Calls Tryz.prog 175 #[.string ⟨s.toArray⟩] w fun e w' => RrdPost w' (.good [] false) e ∧ Below w.heap.size w w' := by
 have HC := Lib.hid (fun W => cutPrefix_any s [60] W)
 rw [hp] at HC
 have HC0 := Lib.hid (fun W => cutPrefix_any s [91] W)
 rw [hp0] at HC0
 generalize Lib.trimPrefix s [91] = t0 at *
 rw [ht] at HC
 have HU := Lib.hid (fun W => cutSuffix_any t [93] W (by omega))
 rw [hs, hu] at HU
 have hli : (s.length : Int) ≤ 65536 := by omega
 have hbw := Below.refl w.heap.size w
 clear hp hp0 ht htl hs hu hl
 go_enter Tryz.func175, Tryz.ntmps175
 go_wp2_with fail
 refine (HC0.out _).mono ?_
 rintro e wk15 ⟨rfl, hbk⟩
 replace hbw := hbw.trans (hbk.mono hbw.size)
 clear hbk
 go_wp2_with fail
 refine (HC.out _).mono ?_
 rintro e wk16 ⟨rfl, hbk⟩
 replace hbw := hbw.trans (hbk.mono hbw.size)
 clear hbk
 go_wp2_with fail
 refine (HU.out _).mono ?_
 rintro e wk17 ⟨rfl, hbk⟩
 replace hbw := hbw.trans (hbk.mono hbw.size)
 clear hbk
 go_wp2_with fail
 go_ret3
 exact ⟨⟨_, _, rfl, TRow.nil _ _ _ (by unfold maxLen; omega)⟩, hbw.alloc hbw.size _⟩
set_option maxRecDepth 100000 in
set_option maxHeartbeats 1000000 in
theorem rowParse_bra2 (s t u : List UInt8) (w : World) (hL : LenIs w) (hl : s.length ≤ 65536) (hp0 : Lib.hasPrefix s [91] = false) (hp : Lib.hasPrefix s [60] = true) (ht : Lib.trimPrefix s [60] = t) (htl : t.length ≤ s.length) (hs : Lib.hasSuffix t [93] = true) (hu : Lib.trimSuffix t [93] = u) (hul : u.length ≤ s.length) (hu0 : u.isEmpty = false) (hb : (cutAll 32 u).any (fun l => !canW l) = true) :
  Calls Tryz.prog 175 #[.string ⟨s.toArray⟩] w fun e w' => RrdPost w' (.bad 15) e ∧ Below w.heap.size w w' := by
 obtain ⟨m, hm⟩ := hL
 have HM := Lib.hid hm
 have HSP := Lib.hid (fun W hm => splitAt_any 32 u m W (by omega) hm)
 have HCW := Lib.hid (fun B W hw => containsTexts B (cutAll 32 u) W hw (fun k hk => by have := cutAll_piece 32 u _ (List.getElem_mem hk); rw [List.getElem?_eq_getElem hk]; simp only [Option.getD_some]; omega) (by have := cutAll_len 32 u; omega))
 rw [hb] at HCW
 have HC := Lib.hid (fun W => cutPrefix_any s [60] W)
 rw [hp] at HC
 have HC0 := Lib.hid (fun W => cutPrefix_any s [91] W)
 rw [hp0] at HC0
 generalize Lib.trimPrefix s [91] = t0 at *
 rw [ht] at HC
 have HU := Lib.hid (fun W => cutSuffix_any t [93] W (by omega))
 rw [hs, hu] at HU
 have hli : (s.length : Int) ≤ 65536 := by omega
 have hcl : (cutAll 32 u).length ≤ 65537 := by have := cutAll_len 32 u; omega
 have hbw := Below.refl w.heap.size w
 clear hp hp0 ht htl hs hu hl hul hb hm
 generalize cutAll 32 u = ws at *
 go_enter Tryz.func175, Tryz.ntmps175
 go_wp2_with fail
 refine (HC0.out _).mono ?_
 rintro e wk18 ⟨rfl, hbk⟩
 replace hbw := hbw.trans (hbk.mono hbw.size)
 clear hbk
 go_wp2_with fail
 refine (HC.out _).mono ?_
 rintro e wk19 ⟨rfl, hbk⟩
 replace hbw := hbw.trans (hbk.mono hbw.size)
 clear hbk
 go_wp2_with fail
 refine (HU.out _).mono ?_
 rintro e wk20 ⟨rfl, hbk⟩
 replace hbw := hbw.trans (hbk.mono hbw.size)
 clear hbk
 go_wp2_with fail
 refine (HSP.out _ ((hbw.cell (cell_lt HM.out)).trans HM.out)).mono ?_
 rintro e w3 ⟨B, rfl, hww, hb2⟩
 replace hbw := hbw.trans (hb2.mono hbw.size)
 clear hb2
 have HW := Lib.hid hww
 clear hww
 go_wp2_with fail
 refine (HCW.out B _ HW.out).mono ?_
 rintro e wk21 ⟨rfl, hbk⟩
 replace hbw := hbw.trans (hbk.mono hbw.size)
 clear hbk
 go_wp2_with fail
 go_ret3
 exact ⟨rfl, hbw⟩
set_option maxRecDepth 100000 in
set_option maxHeartbeats 4000000 in
theorem rowParse_bra3 (s t u : List UInt8) (w : World) (hS : Std w) (hL : LenIs w) (hl : s.length ≤ 65536) (hp0 : Lib.hasPrefix s [91] = false) (hp : Lib.hasPrefix s [60] = true) (ht : Lib.trimPrefix s [60] = t) (htl : t.length ≤ s.length) (hs : Lib.hasSuffix t [93] = true) (hu : Lib.trimSuffix t [93] = u) (hul : u.length ≤ s.length) (hu0 : u.isEmpty = false) (hb : (cutAll 32 u).any (fun l => !canW l) = false) :
  Calls Tryz.prog 175 #[.string ⟨s.toArray⟩] w fun e w' => RrdPost w' (if rowChk ((cutAll 32 u).map valW) = 0 then .good ((cutAll 32 u).map valW) false else .bad 4) e ∧ Below w.heap.size w w' := by
 obtain ⟨i0, hi0, hz0, hz1, hz2⟩ := info_parts Tryz.info_int
 obtain ⟨m, hm⟩ := hL
 have HM := Lib.hid hm
 have HS := Lib.hid hS
 have hpl : ∀ k, k < (cutAll 32 u).length → ((cutAll 32 u)[k]?.getD []).length ≤ 100000 := fun k hk => by have := cutAll_piece 32 u _ (List.getElem_mem hk); rw [List.getElem?_eq_getElem hk]; simp only [Option.getD_some]; omega
 have HSP := Lib.hid (fun W hm => splitAt_any 32 u m W (by omega) hm)
 have HCW := Lib.hid (fun B W hw => containsTexts B (cutAll 32 u) W hw hpl (by have := cutAll_len 32 u; omega))
 rw [hb] at HCW
 have HC := Lib.hid (fun W => cutPrefix_any s [60] W)
 rw [hp] at HC
 have HC0 := Lib.hid (fun W => cutPrefix_any s [91] W)
 rw [hp0] at HC0
 generalize Lib.trimPrefix s [91] = t0 at *
 rw [ht] at HC
 have HU := Lib.hid (fun W => cutSuffix_any t [93] W (by omega))
 rw [hs, hu] at HU
 have hli : (s.length : Int) ≤ 65536 := by omega
 have hcl : (cutAll 32 u).length ≤ 65537 := by have := cutAll_len 32 u; omega
 have hbw := Below.refl w.heap.size w
 clear hp hp0 ht htl hs hu hl hul hm hS
 generalize cutAll 32 u = ws at *
 have HI : Box (∀ k, k < ws.length → ws[k]?.getD [] = itoa (valW (ws[k]?.getD []))) := ⟨fun k hk => canW_itoa (by
  have := List.any_eq_false.1 hb _ (List.getElem_mem hk)
  rw [List.getElem?_eq_getElem hk]
  simpa using this)⟩
 have HPL : Box (∀ k, k < ws.length → (ws[k]?.getD []).length ≤ 100000) := ⟨hpl⟩
 have HX : Box (∀ k, k < ws.length → (ws.map valW)[k]?.getD 0 = valW (ws[k]?.getD [])) := ⟨fun k hk => by rw [List.getElem?_map, List.getElem?_eq_getElem hk]; rfl⟩
 have HXL : Box ((ws.map valW).length = ws.length) := ⟨by simp⟩
 generalize ws.map valW = x at *
 have HOV : Box (∀ k, k < ws.length → (valW (ws[k]?.getD []) < -9223372036854775808 ∨ 9223372036854775807 < valW (ws[k]?.getD [])) → rowChk x ≠ 0) := ⟨fun k hk h hc => by
  have h2 := (rowChk_fits hc k (by have := HXL.out; omega))
  rw [HX.out k hk] at h2
  omega⟩
 have HRC := Lib.hid (fun v W hv => rowCheck_any v x W hv)
 have HE : Box (∀ w' e, (rowChk x = 0 → RrdPost w' (.good x false) e) → (rowChk x ≠ 0 → RrdPost w' (.bad 4) e) → RrdPost w' (if rowChk x = 0 then .good x false else .bad 4) e) := ⟨fun w' e h1 h2 => by
  split
  ·exact h1 (by assumption)
  ·exact h2 (by assumption)⟩
 have HR4 : Box (rowChk x = 0 ∨ rowChk x = 4) := ⟨by unfold rowChk; split <;> simp⟩
 clear hpl hb
 generalize hRD : (if rowChk x = 0 then Rrd.good x false else .bad 4) = rd at *
 clear hRD
 go_enter Tryz.func175, Tryz.ntmps175
 go_wp2_with fail
 refine (HC0.out _).mono ?_
 rintro e wk22 ⟨rfl, hbk⟩
 replace hbw := hbw.trans (hbk.mono hbw.size)
 clear hbk
 go_wp2_with fail
 refine (HC.out _).mono ?_
 rintro e wk23 ⟨rfl, hbk⟩
 replace hbw := hbw.trans (hbk.mono hbw.size)
 clear hbk
 go_wp2_with fail
 refine (HU.out _).mono ?_
 rintro e wk24 ⟨rfl, hbk⟩
 replace hbw := hbw.trans (hbk.mono hbw.size)
 clear hbk
 go_wp2_with fail
 refine (HSP.out _ ((hbw.cell (cell_lt HM.out)).trans HM.out)).mono ?_
 rintro e w3 ⟨B, rfl, hww, hb2⟩
 replace hbw := hbw.trans (hb2.mono hbw.size)
 clear hb2
 have HW := Lib.hid hww
 clear hww
 go_wp2_with fail
 refine (HCW.out B _ HW.out).mono ?_
 rintro e w4 ⟨rfl, hb2⟩
 replace hbw := hbw.trans (hb2.mono hbw.size)
 replace HW := Lib.hid (HW.out.below hb2)
 clear hb2
 replace HS := Lib.hid (HS.out.below hbw (Nat.le_refl _))
 go_wp2_with fail
 go_loopw [2, 3, 49] (fun o kt i wr => ∃ k : Nat, k ≤ ws.length ∧ kt = .bool false ∧ i = .int .i64 k ∧ wr.ownsRow w4.heap.size 3 1 o k (is (x.take k)) ∧ Below w4.heap.size w4 wr) (fun _ _ i _ => ws.length - (intOf i).toNat)
 case atStart => exact ⟨0, Nat.zero_le _, rfl, rfl, World.ownsRow_nil _ _ _ _, Below.refl _ _⟩
 case round =>
  obtain ⟨k, hk, rfl, rfl, hown, hbk⟩ := hrel
  have HO := Lib.hid hown
  clear hown
  by_cases hlt : k < ws.length
  ·have hc := (HW.out.below hbk).2 k hlt
   have hwk := HI.out k hlt
   have hpk := HPL.out k hlt
   have HOK := Lib.hid (HOV.out k hlt)
   have E3 : Box (x.take (k + 1) = x.take k ++ [valW (ws[k]?.getD [])]) := ⟨by have hxl := HXL.out; rw [← HX.out k hlt, List.take_succ_eq_append_getElem (by omega), List.getElem?_eq_getElem (by omega)]; rfl⟩
   rw [hwk] at hc hpk
   clear hwk
   generalize valW (ws[k]?.getD []) = z at *
   by_cases hr : -9223372036854775808 ≤ z ∧ z ≤ 9223372036854775807
   ·have HAk := Lib.hid (fun W => atoi_any z W hr.1 hr.2 hpk)
    clear hr hpk HOK
    generalize itoa z = l at *
    go_wp2_with fail
    refine (HAk.out _).mono ?_
    rintro e w5 ⟨rfl, hb5⟩
    have hown2 := own_below HO.out hb5
    have hw45 := hbk.trans (hb5.mono hbk.size)
    go_wp2_with (at_builtin; refine wpList_append_own _ rfl _ _ _ rfl w4.heap.size 3 i0 (.int .i64 0) 1 8 Tryz.underlying40 hi0 hz0 hz1 hz2 rfl (by decide) _ _ _ rfl (hown2.alloc _) ⟨w5.heap.size, 0, Option.none⟩ 1 1 [_] rfl rfl (cell_one_new _ _ _) (by intro u hu; simp at hu; subst hu; rfl) (by unfold maxLen; omega) (by omega) (by have := hw45.size; simp; omega) ?_; intro v3 w3 hown3 hg3 _)
    go_wp2
    go_roundw
    case rel =>
     refine ⟨k + 1, by omega, rfl, by go_num, ?_, ?_⟩
     ·rw [E3.out, is_append]; exact hown3
     ·exact (hw45.alloc (by have := hw45.size; omega) _).grown hg3 (by have := hw45.size; simp; omega) (fun k hk => (HO.out.lt k hk).1)
    case measure => simp [intOf]; omega
   ·have HAk := Lib.hid (fun W hW => atoi_over_any z W hW (by omega) hpk)
    have HBD := Lib.hid (HOK.out (by omega))
    clear hr hpk HOK
    generalize itoa z = l at *
    go_wp2_with fail
    refine (HAk.out _ (HS.out.below hbk (Nat.le_refl _))).mono ?_
    rintro e w5 ⟨v5, t5, p5, rfl, hb5⟩
    go_wp2_with fail
    go_ret3
    exact ⟨HE.out _ _ (fun h => absurd h HBD.out) (fun _ => rfl), hbw.trans ((hbk.trans (hb5.mono hbk.size)).mono hbw.size)⟩
  ·obtain rfl : k = ws.length := by omega
   have hex : wr.ownsRow w4.heap.size 3 1 u2 x.length (is x) := by have := HO.out; rw [← HXL.out, List.take_of_length_le (Nat.le_refl _)] at this; exact this
   have hti := TRow.of_own hex
   have hti' := hti
   obtain ⟨AX, cx, rfl, _⟩ := hti'
   have HTI := Lib.hid hti
   have HRI := Lib.hid hti.isRow
   clear hex hti
   rcases HR4.out with hr4 | hr4
   ·rw [hr4] at HRC
    go_wp2_with fail
    refine (HRC.out _ _ HRI.out).mono ?_
    rintro e w6 ⟨rfl, hb6⟩
    go_wp2_with fail
    go_ret3
    exact ⟨HE.out _ _ (fun _ => ⟨AX, cx, rfl, HTI.out.below hb6⟩) (fun h => absurd hr4 h), (hbw.trans (hbk.mono hbw.size)).trans (hb6.mono (Nat.le_trans hbw.size hbk.size))⟩
   ·rw [hr4] at HRC
    go_wp2_with fail
    refine (HRC.out _ _ HRI.out).mono ?_
    rintro e w6 ⟨rfl, hb6⟩
    go_wp2_with fail
    go_ret3
    exact ⟨HE.out _ _ (fun h => by omega) (fun _ => rfl), (hbw.trans (hbk.mono hbw.size)).trans (hb6.mono (Nat.le_trans hbw.size hbk.size))⟩
theorem trimPre_len (s p : List UInt8) : (Lib.trimPrefix s p).length ≤ s.length := by
 unfold Lib.trimPrefix
 split
 ·rw [List.length_drop]; omega
 ·exact Nat.le_refl _
theorem trimSuf_len (s p : List UInt8) : (Lib.trimSuffix s p).length ≤ s.length := by
 unfold Lib.trimSuffix
 split
 ·rw [List.length_take]; omega
 ·exact Nat.le_refl _
theorem rowParse_any (s : List UInt8) (w : World) (hS : Std w) (hL : LenIs w) (hl : s.length ≤ 100000) :
  Calls Tryz.prog 175 #[.string ⟨s.toArray⟩] w fun e w' => RrdPost w' (rowRead s) e ∧ Below w.heap.size w w' := by
 unfold rowRead
 by_cases h0 : 65536 < s.length
 ·rw [if_pos h0]; exact rowParse_long s w h0 hl
 rw [if_neg h0]
 have h0' : s.length ≤ 65536 := by omega
 cases h1 : Lib.hasPrefix s [91] with
 | true =>
   rw [if_pos rfl]
   unfold endRead
   have hl1 := trimPre_len s [91]
   generalize ht : Lib.trimPrefix s [91] = t at *
   cases h2 : Lib.hasSuffix t [62] with
   | false => rw [if_pos rfl, h2, if_neg (by decide)]; exact rowParse_ket0 s t w h0' h1 ht hl1 h2
   | true =>
     rw [if_pos rfl, h2, if_pos rfl]
     unfold innerRead
     have hl2 := trimSuf_len t [62]
     generalize hu : Lib.trimSuffix t [62] = u at *
     cases h3 : u.isEmpty with
     | true => rw [if_pos rfl]; exact rowParse_ket1 s t w h0' h1 ht hl1 h2 (by rw [hu]; simpa using h3)
     | false =>
       rw [if_neg (by decide)]
       cases h4 : (cutAll 32 u).any (fun l => !canW l) with
       | true => rw [if_pos rfl]; exact rowParse_ket2 s t u w hL h0' h1 ht hl1 h2 hu (by omega) h3 h4
       | false => rw [if_neg (by decide)]; exact rowParse_ket3 s t u w hS hL h0' h1 ht hl1 h2 hu (by omega) h3 h4
 | false =>
   rw [if_neg (by decide)]
   cases h9 : Lib.hasPrefix s [60] with
   | false => rw [if_neg (by decide)]; exact rowParse_none s w h0' h1 h9
   | true =>
   rw [if_pos rfl]
   have hl1 := trimPre_len s [60]
   generalize ht : Lib.trimPrefix s [60] = t at *
   rw [show endRead t false = (if Lib.hasSuffix t [93] then innerRead (Lib.trimSuffix t [93]) false else .bad 15) from rfl]
   cases h2 : Lib.hasSuffix t [93] with
   | false => rw [if_neg (by decide)]; exact rowParse_bra0 s t w h0' h1 h9 ht hl1 h2
   | true =>
     rw [if_pos rfl]
     unfold innerRead
     have hl2 := trimSuf_len t [93]
     generalize hu : Lib.trimSuffix t [93] = u at *
     cases h3 : u.isEmpty with
     | true => rw [if_pos rfl]; exact rowParse_bra1 s t w h0' h1 h9 ht hl1 h2 (by rw [hu]; simpa using h3)
     | false =>
       rw [if_neg (by decide)]
       cases h4 : (cutAll 32 u).any (fun l => !canW l) with
       | true => rw [if_pos rfl]; exact rowParse_bra2 s t u w hL h0' h1 h9 ht hl1 h2 hu (by omega) h3 h4
       | false => rw [if_neg (by decide)]; exact rowParse_bra3 s t u w hS hL h0' h1 h9 ht hl1 h2 hu (by omega) h3 h4
structure Tok where
 kind : Int
 text : List UInt8
 num : List UInt8
 den : List UInt8
 row : List Int
 line : Int
 col : Int
def letB (c : UInt8) : Bool := decide (97 ≤ (c ||| 32).toNat) && decide ((c ||| 32).toNat ≤ 122)
def partB (c : UInt8) : Bool := letB c || digB c || c == 95 || c == 35 || c == 39
def numB (c : UInt8) : Bool := digB c || c == 46 || c == 47
def runLen (p : UInt8 → Bool) : List UInt8 → Nat
 | [] => 0
 | c :: t => if p c then runLen p t + 1 else 0
theorem runLen_le (p : UInt8 → Bool) : ∀ l, runLen p l ≤ l.length
 | [] => Nat.le_refl _
 | c :: t => by
   rw [runLen]
   split
   ·have := runLen_le p t; simp; omega
   ·exact Nat.zero_le _
def fracIdx (s : List UInt8) : Int := Lib.indexAny (Lib.trimPrefix s [45]) [47, 46]
def fracOf (s : List UInt8) : Frd := if 400 < s.length then .bad 16 else fracRead (Lib.trimPrefix s [45]) (fracIdx s)
def isNeg (s : List UInt8) : Bool := if 400 < s.length then false else Lib.hasPrefix s [45]
inductive Nrd where
 | bad (e : Int)
 | good (kind : Int) (text num den : List UInt8) (row : List Int) (n : Nat)
def wordRead (s : List UInt8) : Nrd := if 32 < runLen partB s then .bad 8 else .good 1 (s.take (runLen partB s)) [] [] [] (runLen partB s)
def numLen (s : List UInt8) : Nat := 1 + runLen numB (s.drop 1)
def numTok (b : Bool) (k : Nat) : Frd → Nrd
 | .bad _ => .bad 2
 | .good n d => .good 2 (ratText (itoa (lowN (sgnd b n) d)) (itoa (lowD (sgnd b n) d))) (itoa (lowN (sgnd b n) d)) (itoa (lowD (sgnd b n) d)) [] k
def numRead (s : List UInt8) : Nrd := numTok (isNeg (s.take (numLen s))) (numLen s) (fracOf (s.take (numLen s)))
def brackEnd (s : List UInt8) : UInt8 := if s[0]?.getD 0 = 60 then 93 else 62
def brackKind (s : List UInt8) : Int := if s[0]?.getD 0 = 60 then 4 else 3
def brackTok (kind : Int) (t : List UInt8) : Rrd → Nrd
 | .bad e => .bad e
 | .good x _ => .good kind t [] [] x t.length
def brackLen (s : List UInt8) : Nat := (Lib.indexByte s (brackEnd s) + 1).toNat
def brackRead (s : List UInt8) : Nrd := if brackLen s = 0 then .bad 15 else brackTok (brackKind s) (s.take (brackLen s)) (rowRead (s.take (brackLen s)))
def marks : List UInt8 := [40, 41, 123, 125, 58, 44, 61, 124, 64, 126, 42, 43]
def nextRead (s : List UInt8) : Nrd :=
 if letB (s[0]?.getD 0) then wordRead s
 else if digB (s[0]?.getD 0) || (s[0]?.getD 0 == 45 && (decide (1 < s.length) && digB (s[1]?.getD 0))) then numRead s
 else if s[0]?.getD 0 = 91 ∨ s[0]?.getD 0 = 60 then brackRead s
 else if 0 ≤ Lib.indexByte marks (s[0]?.getD 0) then .good 5 (s.take 1) [] [] [] 1
 else .bad 15
def blankB (c : UInt8) : Bool := c == 32 || c == 9 || c == 13
inductive Lrd where
 | bad (col e : Int)
 | good (l : List Tok)
def lineStep (i : Nat) (k : Nat) (acc : List Tok) : Nrd → (List Tok → Nat → Lrd) → Lrd
 | .bad e, _ => .bad (k + 1) e
 | .good kd t n d x m, go => if acc.length = 4000 then .bad (k + 1) 4 else go (acc ++ [⟨kd, t, n, d, x, i + 1, k + 1⟩]) (k + m)
def lineRead (i : Nat) (line : List UInt8) : Nat → Nat → List Tok → Lrd
 | 0, _, acc => .good acc
 | g + 1, k, acc =>
   if k < line.length then
    (if blankB (line[k]?.getD 0) then lineRead i line g (k + 1) acc
     else lineStep i k acc (nextRead (line.drop k)) fun a m => lineRead i line g m a)
   else .good acc
inductive Srd where
 | bad (line col e : Int)
 | good (l : List Tok)
def cutSemi (s : List UInt8) : List UInt8 := s.takeWhile (fun c => c != 59)
def endTok (i : Nat) (full : List UInt8) : Tok := ⟨6, [10], [], [], [], i + 1, full.length + 1⟩
def linesRead : Nat → List (List UInt8) → List Tok → Srd
 | _, [], acc => .good acc
 | i, full :: rest, acc =>
   match lineRead i (cutSemi full) (full.length + 1) 0 acc with
   | .bad c e => .bad (i + 1) c e
   | .good l =>
     if l.length = acc.length then linesRead (i + 1) rest l
     else if l.length = 4000 then .bad (i + 1) (full.length + 1) 4
     else linesRead (i + 1) rest (l ++ [endTok i full])
def scanRead (s : List UInt8) : Srd := if 65536 < s.length then .bad 1 1 16 else linesRead 0 (cutAll 10 s) []
theorem or32 (c : UInt8) : (c ||| 32).toNat = c.toNat ||| 32 := by rw [UInt8.toNat_or]; rfl
set_option maxRecDepth 100000 in
theorem bits_or32 : ∀ n : Nat, n < 256 → bits BinOp.or IntKind.u8 (n : Int) 32 = ((n ||| 32 : Nat) : Int) := by
 intro n hn
 have h : ∀ m : Fin 256, bits BinOp.or IntKind.u8 ((m.val : Nat) : Int) 32 = ((m.val ||| 32 : Nat) : Int) := by decide
 exact h ⟨n, hn⟩
theorem letter_any (c : UInt8) (w : World) : Calls Tryz.prog 113 #[.int .u8 c.toNat] w fun e w' => e = .returned (.bool (letB c)) ∧ w = w' := by
 have HE : Box (letB c = (decide (97 ≤ c.toNat ||| 32) && decide (c.toNat ||| 32 ≤ 122))) := ⟨by unfold letB; rw [or32]⟩
 have hb : c.toNat ||| 32 < 256 := by rw [← or32]; exact UInt8.toNat_lt _
 have hbits := bits_or32 c.toNat (UInt8.toNat_lt c)
 generalize c.toNat ||| 32 = m at *
 generalize letB c = out at *
 by_cases h1 : 97 ≤ m
 ·by_cases h2 : m ≤ 122
  ·go_enter Tryz.func113, Tryz.ntmps113
   go_wp2
   go_ret
   exact ⟨ret1 (congrArg Value.bool (by first | (rw [HE.out]; simp [h1, h2]; done) | (rw [HE.out]; simp [h1, h2]; omega) | (rw [HE.out, decide_eq_true h1, Bool.true_and]; exact decide_eq_decide.2 (by omega)))), rfl⟩
  ·go_enter Tryz.func113, Tryz.ntmps113
   go_wp2
   go_ret
   exact ⟨ret1 (congrArg Value.bool (by first | (rw [HE.out]; simp [h1, h2]; done) | (rw [HE.out]; simp [h1, h2]; omega) | (rw [HE.out, decide_eq_true h1, Bool.true_and]; exact decide_eq_decide.2 (by omega)))), rfl⟩
 ·go_enter Tryz.func113, Tryz.ntmps113
  go_wp2
  go_ret
  exact ⟨ret1 (congrArg Value.bool (by rw [HE.out]; simp [h1])), rfl⟩
theorem digit_any (c : UInt8) (w : World) : Calls Tryz.prog 115 #[.int .u8 c.toNat] w fun e w' => e = .returned (.bool (digB c)) ∧ w = w' := by
 have HE : Box (digB c = (decide (48 ≤ c.toNat) && decide (c.toNat ≤ 57))) := ⟨by unfold digB; simp⟩
 generalize digB c = out at *
 by_cases h1 : 48 ≤ c.toNat
 ·by_cases h2 : c.toNat ≤ 57
  ·go_enter Tryz.func115, Tryz.ntmps115
   go_wp2
   go_ret
   exact ⟨ret1 (congrArg Value.bool (by first | (rw [HE.out]; simp [h1, h2]; done) | (rw [HE.out]; simp [h1, h2]; omega) | (rw [HE.out, decide_eq_true h1, Bool.true_and]; exact decide_eq_decide.2 (by omega)))), rfl⟩
  ·go_enter Tryz.func115, Tryz.ntmps115
   go_wp2
   go_ret
   exact ⟨ret1 (congrArg Value.bool (by first | (rw [HE.out]; simp [h1, h2]; done) | (rw [HE.out]; simp [h1, h2]; omega) | (rw [HE.out, decide_eq_true h1, Bool.true_and]; exact decide_eq_decide.2 (by omega)))), rfl⟩
 ·go_enter Tryz.func115, Tryz.ntmps115
  go_wp2
  go_ret
  exact ⟨ret1 (congrArg Value.bool (by rw [HE.out]; simp [h1])), rfl⟩
theorem u8_beq (c : UInt8) (n : Nat) (h : n < 256) : (c == UInt8.ofNat n) = decide (c.toNat = n) := by
 by_cases hc : c = UInt8.ofNat n
 ·subst hc
  rw [decide_eq_true (by rw [UInt8.toNat_ofNat']; omega)]
  simp
 ·rw [decide_eq_false (fun hh => hc (by rw [← hh]; simp)), beq_eq_false_iff_ne]
  exact hc
theorem part_any (c : UInt8) (w : World) : Calls Tryz.prog 172 #[.int .u8 c.toNat] w fun e w' => e = .returned (.bool (partB c)) ∧ w = w' := by
 have HE : Box (partB c = (letB c || digB c || decide (c.toNat = 95) || decide (c.toNat = 35) || decide (c.toNat = 39))) := ⟨by
  unfold partB
  rw [show (95 : UInt8) = UInt8.ofNat 95 from rfl, show (35 : UInt8) = UInt8.ofNat 35 from rfl, show (39 : UInt8) = UInt8.ofNat 39 from rfl, u8_beq _ _ (by omega), u8_beq _ _ (by omega), u8_beq _ _ (by omega)]⟩
 have HL := Lib.hid (fun W => letter_any c W)
 have HD := Lib.hid (fun W => digit_any c W)
 generalize partB c = out at *
 cases hl : letB c with
 | true =>
   rw [hl] at HL HE
   go_enter Tryz.func172, Tryz.ntmps172
   go_wp2_with fail
   refine (HL.out _).mono ?_
   rintro e w1 ⟨rfl, rfl⟩
   go_wp2_with fail
   go_ret
   exact ⟨ret1 (congrArg Value.bool (by rw [HE.out]; rfl)), rfl⟩
 | false =>
   rw [hl] at HL HE
   cases hd : digB c with
   | true =>
     rw [hd] at HD HE
     go_enter Tryz.func172, Tryz.ntmps172
     go_wp2_with fail
     refine (HL.out _).mono ?_
     rintro e w1 ⟨rfl, rfl⟩
     go_wp2_with fail
     refine (HD.out _).mono ?_
     rintro e w1 ⟨rfl, rfl⟩
     go_wp2_with fail
     go_ret
     exact ⟨ret1 (congrArg Value.bool (by rw [HE.out]; rfl)), rfl⟩
   | false =>
     rw [hd] at HD HE
     by_cases h1 : c.toNat = 95
     ·have e1 : ((c.toNat : Int) == 95) = true := by rw [h1]; rfl
      have H1 : Box (c.toNat = 95) := ⟨h1⟩
      clear h1
      go_enter Tryz.func172, Tryz.ntmps172
      go_wp2_with fail
      refine (HL.out _).mono ?_
      rintro e w1 ⟨rfl, rfl⟩
      go_wp2_with fail
      refine (HD.out _).mono ?_
      rintro e w1 ⟨rfl, rfl⟩
      go_wp2_with fail
      go_ret
      exact ⟨ret1 (congrArg Value.bool (by rw [HE.out]; have hh := H1.out; simp [hh])), rfl⟩
     by_cases h2 : c.toNat = 35
     ·have e2 : ((c.toNat : Int) == 35) = true := by rw [h2]; rfl
      have H2 : Box (c.toNat = 35) := ⟨h2⟩
      clear h2
      go_enter Tryz.func172, Tryz.ntmps172
      go_wp2_with fail
      refine (HL.out _).mono ?_
      rintro e w1 ⟨rfl, rfl⟩
      go_wp2_with fail
      refine (HD.out _).mono ?_
      rintro e w1 ⟨rfl, rfl⟩
      go_wp2_with fail
      go_ret
      exact ⟨ret1 (congrArg Value.bool (by rw [HE.out]; have hh := H2.out; simp [hh])), rfl⟩
     by_cases h3 : c.toNat = 39
     ·have e3 : ((c.toNat : Int) == 39) = true := by rw [h3]; rfl
      have H3 : Box (c.toNat = 39) := ⟨h3⟩
      clear h3
      go_enter Tryz.func172, Tryz.ntmps172
      go_wp2_with fail
      refine (HL.out _).mono ?_
      rintro e w1 ⟨rfl, rfl⟩
      go_wp2_with fail
      refine (HD.out _).mono ?_
      rintro e w1 ⟨rfl, rfl⟩
      go_wp2_with fail
      go_ret
      exact ⟨ret1 (congrArg Value.bool (by rw [HE.out]; have hh := H3.out; simp [hh])), rfl⟩
     go_enter Tryz.func172, Tryz.ntmps172
     go_wp2_with fail
     refine (HL.out _).mono ?_
     rintro e w1 ⟨rfl, rfl⟩
     go_wp2_with fail
     refine (HD.out _).mono ?_
     rintro e w1 ⟨rfl, rfl⟩
     go_wp2_with fail
     go_ret
     exact ⟨ret1 (congrArg Value.bool (by rw [HE.out]; simp [h1, h2, h3]; omega)), rfl⟩
theorem numc_any (c : UInt8) (w : World) : Calls Tryz.prog 173 #[.int .u8 c.toNat] w fun e w' => e = .returned (.bool (numB c)) ∧ w = w' := by
 have HE : Box (numB c = (digB c || decide (c.toNat = 46) || decide (c.toNat = 47))) := ⟨by
  unfold numB
  rw [show (46 : UInt8) = UInt8.ofNat 46 from rfl, show (47 : UInt8) = UInt8.ofNat 47 from rfl, u8_beq _ _ (by omega), u8_beq _ _ (by omega)]⟩
 have HD := Lib.hid (fun W => digit_any c W)
 generalize numB c = out at *
 cases hd : digB c with
 | true =>
   rw [hd] at HD HE
   go_enter Tryz.func173, Tryz.ntmps173
   go_wp2_with fail
   refine (HD.out _).mono ?_
   rintro e w1 ⟨rfl, rfl⟩
   go_wp2_with fail
   go_ret
   exact ⟨ret1 (congrArg Value.bool (by rw [HE.out]; rfl)), rfl⟩
 | false =>
   rw [hd] at HD HE
   by_cases h1 : c.toNat = 46
   ·have e1 : ((c.toNat : Int) == 46) = true := by rw [h1]; rfl
    have H1 : Box (c.toNat = 46) := ⟨h1⟩
    clear h1
    go_enter Tryz.func173, Tryz.ntmps173
    go_wp2_with fail
    refine (HD.out _).mono ?_
    rintro e w1 ⟨rfl, rfl⟩
    go_wp2_with fail
    go_ret
    exact ⟨ret1 (congrArg Value.bool (by rw [HE.out]; have hh := H1.out; simp [hh])), rfl⟩
   by_cases h2 : c.toNat = 47
   ·have e2 : ((c.toNat : Int) == 47) = true := by rw [h2]; rfl
    have H2 : Box (c.toNat = 47) := ⟨h2⟩
    clear h2
    go_enter Tryz.func173, Tryz.ntmps173
    go_wp2_with fail
    refine (HD.out _).mono ?_
    rintro e w1 ⟨rfl, rfl⟩
    go_wp2_with fail
    go_ret
    exact ⟨ret1 (congrArg Value.bool (by rw [HE.out]; have hh := H2.out; simp [hh])), rfl⟩
   go_enter Tryz.func173, Tryz.ntmps173
   go_wp2_with fail
   refine (HD.out _).mono ?_
   rintro e w1 ⟨rfl, rfl⟩
   go_wp2_with fail
   go_ret
   exact ⟨ret1 (congrArg Value.bool (by first | (rw [HE.out]; simp [h1, h2]; done) | (rw [HE.out]; simp [h1, h2]; omega))), rfl⟩
theorem runLen_drop (p : UInt8 → Bool) (s : List UInt8) (k : Nat) (h : k < s.length) : runLen p (s.drop k) = if p (s[k]?.getD 0) then runLen p (s.drop (k + 1)) + 1 else 0 := by
 rw [List.drop_eq_getElem_cons h, runLen, List.getElem?_eq_getElem h]; rfl
set_option maxRecDepth 100000 in
set_option maxHeartbeats 1000000 in
theorem length_part (s : List UInt8) (w : World) (hl : s.length ≤ 1000000) :
  Calls Tryz.prog 171 #[.string ⟨s.toArray⟩, .func (.func 172) #[] #[]] w fun e w' => e = .returned (.int .i64 (runLen partB s : Nat)) ∧ w = w' := by
 have HD := Lib.hid (runLen_drop partB s)
 have HE : Box (runLen partB (s.drop s.length) = 0) := ⟨by rw [List.drop_length]; rfl⟩
 have H0 : Box (runLen partB s = 0 + runLen partB (s.drop 0)) := ⟨by rw [List.drop_zero]; omega⟩
 generalize runLen partB s = out at *
 go_enter Tryz.func171, Tryz.ntmps171
 go_wp2_with fail
 go_loop [5, 8] (fun _ i => ∃ k : Nat, k ≤ s.length ∧ i = .int .i64 k ∧ Box (out = k + runLen partB (s.drop k))) (fun _ i => s.length - (intOf i).toNat)
 case atStart => exact ⟨0, Nat.zero_le _, rfl, H0⟩
 case round =>
  obtain ⟨k, hk, rfl, HO⟩ := hrel
  by_cases hlt : k < s.length
  ·have hx := ba_at s k
   have HD2 := Lib.hid (HD.out k hlt)
   generalize s[k]?.getD 0 = c at *
   have HC := Lib.hid (fun W => part_any c W)
   cases hp : partB c with
   | false =>
     rw [hp] at HC HD2
     go_wp2_with fail
     refine (HC.out _).mono ?_
     rintro e w1 ⟨rfl, rfl⟩
     go_wp2_with fail
     go_ret
     exact ⟨ret1 (congrArg (Value.int .i64) (by have h1 := HO.out; have h2 := HD2.out; simp at h2; omega)), rfl⟩
   | true =>
     rw [hp] at HC HD2
     go_wp2_with fail
     refine (HC.out _).mono ?_
     rintro e w1 ⟨rfl, rfl⟩
     go_wp2_with fail
     go_round
     case rel => exact ⟨k + 1, by omega, by go_num, ⟨by have h1 := HO.out; have h2 := HD2.out; simp at h2; omega⟩⟩
     case measure => simp [intOf]; omega
  ·obtain rfl : k = s.length := by omega
   go_wp2_with fail
   go_ret
   exact ⟨ret1 (congrArg (Value.int .i64) (by have h1 := HO.out; have h2 := HE.out; omega)), rfl⟩
set_option maxRecDepth 100000 in
set_option maxHeartbeats 1000000 in
theorem length_numc (s : List UInt8) (w : World) (hl : s.length ≤ 1000000) :
  Calls Tryz.prog 171 #[.string ⟨s.toArray⟩, .func (.func 173) #[] #[]] w fun e w' => e = .returned (.int .i64 (runLen numB s : Nat)) ∧ w = w' := by
 have HD := Lib.hid (runLen_drop numB s)
 have HE : Box (runLen numB (s.drop s.length) = 0) := ⟨by rw [List.drop_length]; rfl⟩
 have H0 : Box (runLen numB s = 0 + runLen numB (s.drop 0)) := ⟨by rw [List.drop_zero]; omega⟩
 generalize runLen numB s = out at *
 go_enter Tryz.func171, Tryz.ntmps171
 go_wp2_with fail
 go_loop [5, 8] (fun _ i => ∃ k : Nat, k ≤ s.length ∧ i = .int .i64 k ∧ Box (out = k + runLen numB (s.drop k))) (fun _ i => s.length - (intOf i).toNat)
 case atStart => exact ⟨0, Nat.zero_le _, rfl, H0⟩
 case round =>
  obtain ⟨k, hk, rfl, HO⟩ := hrel
  by_cases hlt : k < s.length
  ·have hx := ba_at s k
   have HD2 := Lib.hid (HD.out k hlt)
   generalize s[k]?.getD 0 = c at *
   have HC := Lib.hid (fun W => numc_any c W)
   cases hp : numB c with
   | false =>
     rw [hp] at HC HD2
     go_wp2_with fail
     refine (HC.out _).mono ?_
     rintro e w1 ⟨rfl, rfl⟩
     go_wp2_with fail
     go_ret
     exact ⟨ret1 (congrArg (Value.int .i64) (by have h1 := HO.out; have h2 := HD2.out; simp at h2; omega)), rfl⟩
   | true =>
     rw [hp] at HC HD2
     go_wp2_with fail
     refine (HC.out _).mono ?_
     rintro e w1 ⟨rfl, rfl⟩
     go_wp2_with fail
     go_round
     case rel => exact ⟨k + 1, by omega, by go_num, ⟨by have h1 := HO.out; have h2 := HD2.out; simp at h2; omega⟩⟩
     case measure => simp [intOf]; omega
  ·obtain rfl : k = s.length := by omega
   go_wp2_with fail
   go_ret
   exact ⟨ret1 (congrArg (Value.int .i64) (by have h1 := HO.out; have h2 := HE.out; omega)), rfl⟩
def tokVals (t : Tok) (rv : Value) : List Value := [.int .i64 t.kind, .string ⟨t.text.toArray⟩, .string ⟨t.num.toArray⟩, .string ⟨t.den.toArray⟩, rv, .int .i64 t.line, .int .i64 t.col]
def flat : List Tok → List Value → List Value
 | t :: l, rv :: r => tokVals t rv ++ flat l r
 | _, _ => []
theorem flat_len : ∀ (l : List Tok) (r : List Value), r.length = l.length → (flat l r).length = l.length * 7
 | [], [], _ => rfl
 | [], _ :: _, h => by simp at h
 | _ :: _, [], h => by simp at h
 | t :: l, rv :: r, h => by
   rw [flat, List.length_append, flat_len l r (by simpa using h), List.length_cons]
   show 7 + l.length * 7 = _
   omega
theorem flat_append : ∀ (l : List Tok) (r : List Value) (t : Tok) (rv : Value), r.length = l.length → flat (l ++ [t]) (r ++ [rv]) = flat l r ++ tokVals t rv
 | [], [], t, rv, _ => by simp [flat]
 | [], _ :: _, _, _, h => by simp at h
 | _ :: _, [], _, _, h => by simp at h
 | a :: l, b :: r, t, rv, h => by
   rw [List.cons_append, List.cons_append, flat, flat, flat_append l r t rv (by simpa using h), List.append_assoc]
theorem flat_get : ∀ (l : List Tok) (r : List Value) (k : Nat) (t : Tok) (rv : Value) (j : Nat), r.length = l.length → l[k]? = some t → r[k]? = some rv → j < 7 → (flat l r)[k * 7 + j]? = (tokVals t rv)[j]?
 | [], _, k, t, rv, j, _, h, _, _ => by simp at h
 | _ :: _, [], k, t, rv, j, h, _, _, _ => by simp at h
 | a :: l, b :: r, 0, t, rv, j, _, h1, h2, hj => by
   simp at h1 h2
   subst h1 h2
   rw [flat, Nat.zero_mul, Nat.zero_add, List.getElem?_append_left (by show j < 7; exact hj)]
 | a :: l, b :: r, k + 1, t, rv, j, h, h1, h2, hj => by
   rw [flat, List.getElem?_append_right (by show 7 ≤ _; omega), show (k + 1) * 7 + j - (tokVals a b).length = k * 7 + j by show (k + 1) * 7 + j - 7 = _; omega]
   exact flat_get l r k t rv j (by simpa using h) (by simpa using h1) (by simpa using h2) hj
def IsToks (w : World) (B : Nat) (v : Value) (l : List Tok) : Prop := ∃ A c rvs, v = .slice A l.length c ∧ l.length ≤ c ∧ c ≤ maxLen ∧ rvs.length = l.length ∧ Row w B 7 A l.length (flat l rvs) ∧ ∀ (k : Nat) t rv, l[k]? = some t → rvs[k]? = some rv → IsRow w B rv t.row
theorem IsToks.keep {w w' : World} {B : Nat} {v : Value} {l : List Tok} (h : IsToks w B v l) (hb : Below B w w') : IsToks w' B v l := by
 obtain ⟨A, c, rvs, rfl, h1, h2, h3, h4, h5⟩ := h
 exact ⟨A, c, rvs, rfl, h1, h2, h3, h4.below hb (Nat.le_refl _), fun k t rv a b => (h5 k t rv a b).keep hb⟩
theorem IsToks.up {w : World} {B B' : Nat} {v : Value} {l : List Tok} (h : IsToks w B v l) (hB : B ≤ B') : IsToks w B' v l := by
 obtain ⟨A, c, rvs, rfl, h1, h2, h3, h4, h5⟩ := h
 exact ⟨A, c, rvs, rfl, h1, h2, h3, h4.up hB, fun k t rv a b => (h5 k t rv a b).up hB⟩
theorem IsToks.lift {w w' : World} {v : Value} {l : List Tok} (h : IsToks w w.heap.size v l) (hb : Below w.heap.size w w') : IsToks w' w'.heap.size v l := (h.keep hb).up hb.size
def Toks (w : World) (base : Nat) (v : Value) (l : List Tok) : Prop := ∃ rvs : List Value, rvs.length = l.length ∧ w.ownsRow base 92 7 v l.length (flat l rvs) ∧ ∀ (k : Nat) t rv, l[k]? = some t → rvs[k]? = some rv → TRow w rv t.row
theorem Toks.nil (w : World) (base : Nat) : Toks w base (.slice Option.none 0 0) [] := ⟨[], rfl, World.ownsRow_nil _ _ _ _, fun k t rv h => by simp at h⟩
theorem Toks.below {w w' : World} {base : Nat} {v : Value} {l : List Tok} (h : Toks w base v l) (hb : Below w.heap.size w w') : Toks w' base v l := by
 obtain ⟨rvs, h1, h2, h3⟩ := h
 exact ⟨rvs, h1, own_below h2 hb, fun k t rv a b => (h3 k t rv a b).below hb⟩
theorem Toks.isToks {w : World} {base : Nat} {v : Value} {l : List Tok} (h : Toks w base v l) : IsToks w w.heap.size v l := by
 obtain ⟨rvs, h1, h2, h3⟩ := h
 obtain ⟨A, c, rfl, h4, h5, h6⟩ := Row.of_own h2
 exact ⟨A, c, rvs, rfl, h4, h5, h1, h6, fun k t rv a b => (h3 k t rv a b).isRow⟩
theorem Toks.push {w w' : World} {base : Nat} {v v' : Value} {l : List Tok} {t : Tok} {rv : Value} {rvs : List Value} (h1 : rvs.length = l.length) (h2 : w.ownsRow base 92 7 v l.length (flat l rvs)) (h3 : ∀ (k : Nat) t rv, l[k]? = some t → rvs[k]? = some rv → TRow w rv t.row) (ht : TRow w rv t.row)
  (ho : w'.ownsRow base 92 7 v' (l.length + 1) (flat l rvs ++ tokVals t rv)) (hg : w.grownBy w' v.ownBlock) : Toks w' base v' (l ++ [t]) := by
 refine ⟨rvs ++ [rv], by simp [h1], ?_, ?_⟩
 ·rw [flat_append l rvs t rv h1, List.length_append]; exact ho
 ·intro k u uv a b
  rcases Nat.lt_trichotomy k l.length with hk | hk | hk
  ·rw [List.getElem?_append_left hk] at a
   rw [List.getElem?_append_left (by omega)] at b
   exact (h3 k u uv a b).grown h2 hg (by decide)
  ·subst hk
   rw [List.getElem?_append_right (Nat.le_refl _), Nat.sub_self] at a
   rw [List.getElem?_append_right (by omega), h1, Nat.sub_self] at b
   simp at a b
   subst a b
   exact ht.grown h2 hg (by decide)
  ·rw [List.getElem?_append_right (by omega)] at a
   rw [List.getElem?_eq_none (by simp; omega)] at a
   cases a
theorem cells_below {w w' : World} {cs : Array Value} {t : TypeId} (hb : Below (w.heap.size + 1) (w.alloc (.cells cs t)) w') (k : Nat) : w'.cell? ⟨w.heap.size, k, Option.none⟩ = cs[k]? ∧ w'.frozen? ⟨w.heap.size, k, Option.none⟩ = false := by
 refine ⟨?_, ?_⟩
 ·rw [hb.cell (p := ⟨w.heap.size, k, Option.none⟩) (by simp), World.cell?_alloc_new]
 ·rw [hb.frozen (p := ⟨w.heap.size, k, Option.none⟩) (by simp), World.frozen?_alloc_new]
theorem size_below {w w' : World} {o : Obj} (hb : Below (w.heap.size + 1) (w.alloc o) w') : w.heap.size < w'.heap.size := by have := hb.size; simp at this; omega
theorem tok_below {w w' : World} {a0 a1 a2 a3 a4 a5 a6 : Value} {t : TypeId} (hb : Below (w.heap.size + 1) (w.alloc (.cells #[a0, a1, a2, a3, a4, a5, a6] t)) w') :
  (w'.cell? ⟨w.heap.size, 0, Option.none⟩ = some a0 ∧ w'.cell? ⟨w.heap.size, 1, Option.none⟩ = some a1 ∧ w'.cell? ⟨w.heap.size, 2, Option.none⟩ = some a2 ∧ w'.cell? ⟨w.heap.size, 3, Option.none⟩ = some a3 ∧ w'.cell? ⟨w.heap.size, 4, Option.none⟩ = some a4 ∧ w'.cell? ⟨w.heap.size, 5, Option.none⟩ = some a5 ∧ w'.cell? ⟨w.heap.size, 6, Option.none⟩ = some a6) ∧
  (w'.frozen? ⟨w.heap.size, 0, Option.none⟩ = false ∧ w'.frozen? ⟨w.heap.size, 1, Option.none⟩ = false ∧ w'.frozen? ⟨w.heap.size, 2, Option.none⟩ = false ∧ w'.frozen? ⟨w.heap.size, 3, Option.none⟩ = false ∧ w'.frozen? ⟨w.heap.size, 4, Option.none⟩ = false ∧ w'.frozen? ⟨w.heap.size, 5, Option.none⟩ = false ∧ w'.frozen? ⟨w.heap.size, 6, Option.none⟩ = false) ∧ w.heap.size < w'.heap.size :=
 ⟨⟨(cells_below hb 0).1, (cells_below hb 1).1, (cells_below hb 2).1, (cells_below hb 3).1, (cells_below hb 4).1, (cells_below hb 5).1, (cells_below hb 6).1⟩, ⟨(cells_below hb 0).2, (cells_below hb 1).2, (cells_below hb 2).2, (cells_below hb 3).2, (cells_below hb 4).2, (cells_below hb 5).2, (cells_below hb 6).2⟩, size_below hb⟩
theorem below7 {w w2 : World} (h : Below w.heap.size w w2) (a0 a1 a2 a3 a4 a5 a6 : Value) :
  Below w.heap.size w (((((((w2.setCell ⟨w.heap.size, 0, Option.none⟩ a0).setCell ⟨w.heap.size, 1, Option.none⟩ a1).setCell ⟨w.heap.size, 2, Option.none⟩ a2).setCell ⟨w.heap.size, 3, Option.none⟩ a3).setCell ⟨w.heap.size, 4, Option.none⟩ a4).setCell ⟨w.heap.size, 5, Option.none⟩ a5).setCell ⟨w.heap.size, 6, Option.none⟩ a6) :=
 ((((((h.setCell (Nat.le_refl _) _).setCell (Nat.le_refl _) _).setCell (Nat.le_refl _) _).setCell (Nat.le_refl _) _).setCell (Nat.le_refl _) _).setCell (Nat.le_refl _) _).setCell (Nat.le_refl _) _
def tokAgg (kd : Int) (t n d : List UInt8) (rv : Value) : Value := .agg #[.int .i64 kd, .string ⟨t.toArray⟩, .string ⟨n.toArray⟩, .string ⟨d.toArray⟩, rv, .int .i64 0, .int .i64 0]
def tok0 : Value := tokAgg 0 [] [] [] (.slice Option.none 0 0)
def NextPost (w' : World) : Nrd → Ending → Prop
 | .bad er, e => e = .returned (.tuple #[tok0, .int .i64 0, .int .i64 er])
 | .good kd t n d x m, e => ∃ rv, e = .returned (.tuple #[tokAgg kd t n d rv, .int .i64 m, .int .i64 0]) ∧ TRow w' rv x
def TokPost (w' : World) : Nrd → Ending → Prop
 | .bad er, e => e = .returned (.tuple #[tok0, .int .i64 er])
 | .good kd t n d x _, e => ∃ rv, e = .returned (.tuple #[tokAgg kd t n d rv, .int .i64 0]) ∧ TRow w' rv x
set_option maxRecDepth 100000 in
set_option maxHeartbeats 1000000 in
theorem word_any (s : List UInt8) (w : World) (hl : s.length ≤ 1000000) :
  Calls Tryz.prog 114 #[.string ⟨s.toArray⟩] w fun e w' => TokPost w' (wordRead s) e ∧ Below w.heap.size w w' := by
 have HL := Lib.hid (fun W => length_part s W hl)
 have hle := runLen_le partB s
 unfold wordRead
 generalize runLen partB s = n at *
 have hx : (⟨s.toArray⟩ : ByteArray).extract 0 n = ⟨(s.take n).toArray⟩ := ba_ext (by rw [ext_eq]; simp)
 by_cases h : 32 < n
 ·rw [if_pos h]
  go_enter Tryz.func114, Tryz.ntmps114
  go_wp2_with fail
  refine (HL.out _).mono ?_
  rintro e w1 ⟨rfl, rfl⟩
  go_wp2_with fail
  refine bodyPost_ret (v := .tuple #[.agg #[.int .i64 0, .string ⟨#[]⟩, .string ⟨#[]⟩, .string ⟨#[]⟩, .slice Option.none 0 0, .int .i64 0, .int .i64 0], .int .i64 8]) (by simp [results, Tryz.results114, go_sem]) rfl ⟨rfl, ?_⟩
  exact (Below.refl _ _).alloc (Nat.le_refl _) _
 ·rw [if_neg h]
  go_enter Tryz.func114, Tryz.ntmps114
  go_wp2_with fail
  refine (HL.out _).mono ?_
  rintro e w1 ⟨rfl, rfl⟩
  go_wp2_with fail
  refine bodyPost_ret (v := .tuple #[.agg #[.int .i64 1, .string ⟨(s.take n).toArray⟩, .string ⟨#[]⟩, .string ⟨#[]⟩, .slice Option.none 0 0, .int .i64 0, .int .i64 0], .int .i64 0]) (by simp [results, Tryz.results114, go_sem]) rfl ⟨⟨_, rfl, TRow.nil _ _ _ (by unfold maxLen; omega)⟩, ?_⟩
  exact (Below.refl _ _).alloc (Nat.le_refl _) _
set_option maxRecDepth 100000 in
set_option maxHeartbeats 4000000 in
theorem fParse_pt (s ta tb : List UInt8) (b : Bool) (w : World) (hS : Std w) (hl : s.length ≤ 400) (ht : (ta ++ 46 :: tb).length ≤ s.length) (hc : CutIs s (ta ++ 46 :: tb) b) (hi : IdxIs (ta ++ 46 :: tb) ta.length) :
  Calls Tryz.prog 174 #[.string ⟨s.toArray⟩] w fun e w' => e = .returned (frdOut b (if okDig ta && okDig tb then .good (dval 0 (ta ++ tb)) (10 ^ tb.length) else .bad 15)) ∧ Below w.heap.size w w' := by
 have htl : (ta ++ 46 :: tb).length = ta.length + 1 + tb.length := by simp; omega
 have HC := Lib.hid hc
 have HI := Lib.hid hi
 have HD1 := Lib.hid (fun W => digs_any ta W (by omega))
 have HD2 := Lib.hid (fun W => digs_any tb W (by omega))
 have HD3 := Lib.hid (fun W => digs_any (ta ++ tb) W (by simp; omega))
 have HR := Lib.hid (fun W => repeat_zeros tb.length W (by omega))
 have HS := Lib.hid hS
 have hli : (s.length : Int) ≤ 400 := by omega
 have hx1 : ∀ h, (⟨(ta ++ 46 :: tb).toArray⟩ : ByteArray)[ta.length]'h = 46 := by
  intro h
  rw [ba_at]
  simp
 have hx2 : (⟨(ta ++ 46 :: tb).toArray⟩ : ByteArray).extract 0 ta.length = ⟨ta.toArray⟩ := ba_ext (by rw [ext_eq]; simp)
 have hx3 : (⟨(ta ++ 46 :: tb).toArray⟩ : ByteArray).extract (ta.length + 1) (ta ++ 46 :: tb).length = ⟨tb.toArray⟩ := ba_ext (by rw [ext_eq, mk_toList, mk_toList, List.take_of_length_le (Nat.le_refl _), show ta ++ 46 :: tb = (ta ++ [46]) ++ tb by simp, List.drop_left' (by simp)])
 have hx4 := ba_append ta tb
 have hx5 := ba_append [49] (List.replicate tb.length 48)
 rw [List.singleton_append, ← dec_pow10] at hx5
 have hsb : ((ta ++ 46 :: tb).length : Int) - (ta.length : Int) - 1 = (tb.length : Int) := by omega
 have hle : ta.length + 1 ≤ (ta ++ 46 :: tb).length := by omega
 have hln : (ta ++ 46 :: tb).length ≤ 400 := by omega
 have hdl3 : okDig (ta ++ tb) = true → (decDigits (dval 0 (ta ++ tb))).length ≤ 400 := fun h => by have := dval_len h; simp at this; omega
 have hdl4 : (decDigits (10 ^ tb.length)).length ≤ 401 := by rw [dec_pow10]; simp; omega
 have hz := dec_eq_zero (10 ^ tb.length)
 have hp0 : 0 < 10 ^ tb.length := Nat.pow_pos (by omega)
 rw [decide_eq_false (by omega)] at hz
 have hk0 : (0 : Int) ≤ (ta.length : Int) := by omega
 have hk1 : (ta.length : Int) ≤ ((ta ++ 46 :: tb).length : Int) := by omega
 have hk2 : (ta.length : Int) + 1 ≤ ((ta ++ 46 :: tb).length : Int) := by omega
 have hk3 : IntKind.i64.wrap ((ta.length : Int) + 1) = (ta.length : Int) + 1 := wrap_small _ (by omega) (by omega)
 have hk4 : ((ta.length : Int) + 1).toNat = ta.length + 1 := by omega
 have hk5 : (0 : Int) ≤ (ta.length : Int) + 1 := by omega
 have hk6 : ¬ (9223372036854775807 < ta.length + tb.length) := by omega
 have hlz : (List.replicate tb.length (48 : UInt8)).length ≤ 400 := by simp; omega
 clear hS hl ht hc hi htl
 generalize ta ++ 46 :: tb = t at *
 generalize hm10 : 10 ^ tb.length = q10 at *
 clear hm10
 cases ho1 : okDig ta with
 | false =>
   rw [ho1] at HD1
   rw [Bool.false_and, if_neg (by decide), frdOut_bad]
   clear hdl3 hdl4 hp0 ho1
   generalize digS ta = d1 at *
   generalize digS tb = d2 at *
   generalize digS (ta ++ tb) = d3 at *
   generalize okDig tb = o2 at *
   generalize okDig (ta ++ tb) = o3 at *
   generalize decDigits q10 = d4 at *
   generalize ta ++ tb = tc at *
   generalize List.replicate tb.length (48 : UInt8) = tz at *
   go_enter Tryz.func174, Tryz.ntmps174
   go_wp2_with fail
   refine (HC.out _).mono ?_
   rintro e wk1 ⟨rfl, hb1⟩
   rw [World.size_alloc] at hb1
   go_wp2_with fail
   refine (HI.out _).mono ?_
   rintro e wk2 ⟨rfl, hbk⟩
   replace hb1 := hb1.trans (hbk.mono (by have := hb1.size; simp at this; omega))
   clear hbk
   go_wp2_with fail
   refine (HD1.out _).mono ?_
   rintro e wk3 ⟨rfl, hbk⟩
   replace hb1 := hb1.trans (hbk.mono (by have := hb1.size; simp at this; omega))
   clear hbk
   go_wp2_with fail
   refine (HD2.out _).mono ?_
   rintro e wk4 ⟨rfl, hbk⟩
   replace hb1 := hb1.trans (hbk.mono (by have := hb1.size; simp at this; omega))
   clear hbk
   go_wp2_with fail
   go_region_held3 (fun w' => True) (first | trivial) ((first | (go_at_call 209; (with_reducible refine (HD3.out _).mono ?_); rintro e wd3 ⟨rfl, hbk⟩)))
   replace hbk := below_of_drew hbk
   replace hb1 := hb1.trans (hbk.mono (by have := hb1.size; simp at this; omega))
   clear hbk
   go_wp2_with fail
   refine (HR.out _).mono ?_
   rintro e wk5 ⟨rfl, hbk⟩
   replace hb1 := hb1.trans (hbk.mono (by have := hb1.size; simp at this; omega))
   clear hbk
   obtain ⟨q0, q1, q2, q3, q4⟩ := two_below hb1
   have hbw2 := below_result hb1
   go_wp2_with fail
   refine bodyPost_ret (v := .tuple #[.agg #[.string ⟨#[]⟩, .string ⟨#[]⟩], .int .i64 15]) (by simp [results, Tryz.results174, go_sem, q0, q1]) rfl ⟨rfl, ?_⟩
   exact (hbw2.setCell (Nat.le_refl _) _).setCell (Nat.le_refl _) _
 | true =>
 rw [ho1] at HD1
 cases ho2 : okDig tb with
 | false =>
   rw [ho2] at HD2
   rw [Bool.true_and, if_neg (by decide), frdOut_bad]
   clear hdl3 hdl4 hp0 ho1 ho2
   generalize digS ta = d1 at *
   generalize digS tb = d2 at *
   generalize digS (ta ++ tb) = d3 at *
   generalize okDig (ta ++ tb) = o3 at *
   generalize decDigits q10 = d4 at *
   generalize ta ++ tb = tc at *
   generalize List.replicate tb.length (48 : UInt8) = tz at *
   go_enter Tryz.func174, Tryz.ntmps174
   go_wp2_with fail
   refine (HC.out _).mono ?_
   rintro e wk6 ⟨rfl, hb1⟩
   rw [World.size_alloc] at hb1
   go_wp2_with fail
   refine (HI.out _).mono ?_
   rintro e wk7 ⟨rfl, hbk⟩
   replace hb1 := hb1.trans (hbk.mono (by have := hb1.size; simp at this; omega))
   clear hbk
   go_wp2_with fail
   refine (HD1.out _).mono ?_
   rintro e wk8 ⟨rfl, hbk⟩
   replace hb1 := hb1.trans (hbk.mono (by have := hb1.size; simp at this; omega))
   clear hbk
   go_wp2_with fail
   refine (HD2.out _).mono ?_
   rintro e wk9 ⟨rfl, hbk⟩
   replace hb1 := hb1.trans (hbk.mono (by have := hb1.size; simp at this; omega))
   clear hbk
   go_wp2_with fail
   go_region_held3 (fun w' => True) (first | trivial) ((first | (go_at_call 209; (with_reducible refine (HD3.out _).mono ?_); rintro e wd3 ⟨rfl, hbk⟩)))
   replace hbk := below_of_drew hbk
   replace hb1 := hb1.trans (hbk.mono (by have := hb1.size; simp at this; omega))
   clear hbk
   go_wp2_with fail
   refine (HR.out _).mono ?_
   rintro e wk10 ⟨rfl, hbk⟩
   replace hb1 := hb1.trans (hbk.mono (by have := hb1.size; simp at this; omega))
   clear hbk
   obtain ⟨q0, q1, q2, q3, q4⟩ := two_below hb1
   have hbw2 := below_result hb1
   go_wp2_with fail
   refine bodyPost_ret (v := .tuple #[.agg #[.string ⟨#[]⟩, .string ⟨#[]⟩], .int .i64 15]) (by simp [results, Tryz.results174, go_sem, q0, q1]) rfl ⟨rfl, ?_⟩
   exact (hbw2.setCell (Nat.le_refl _) _).setCell (Nat.le_refl _) _
 | true =>
 rw [ho2] at HD2
 have ho3 := okDig_append ho1 ho2
 have hds3 : digS (ta ++ tb) = decDigits (dval 0 (ta ++ tb)) := by unfold digS; rw [ho3, if_pos rfl]
 rw [ho3, hds3] at HD3
 replace hdl3 := hdl3 ho3
 rw [Bool.true_and, if_pos rfl, frdOut_good]
 have HL := Lib.hid (fun W hW => low_read b (dval 0 (ta ++ tb)) q10 W hW (by omega) (by omega) (by omega))
 have HN := Lib.hid (fun W => whNeg_any (dval 0 (ta ++ tb) : Nat) W (by rw [itoa_nat]; omega))
 rw [itoa_nat] at HN
 cases b with
 | false =>
   rw [show itoa (sgnd false (dval 0 (ta ++ tb))) = decDigits (dval 0 (ta ++ tb)) by unfold sgnd; rw [if_neg (by decide), itoa_nat]] at HL
   clear hdl3 hdl4 hp0 ho1 ho2 ho3 hds3 HN
   generalize itoa (lowN (sgnd false (dval 0 (ta ++ tb))) (q10 : Nat)) = la at *
   generalize itoa (lowD (sgnd false (dval 0 (ta ++ tb))) (q10 : Nat)) = lb at *
   generalize decDigits (dval 0 (ta ++ tb)) = d3 at *
   generalize digS ta = d1 at *
   generalize digS tb = d2 at *
   generalize decDigits q10 = d4 at *
   generalize ta ++ tb = tc at *
   generalize List.replicate tb.length (48 : UInt8) = tz at *
   go_enter Tryz.func174, Tryz.ntmps174
   go_wp2_with fail
   refine (HC.out _).mono ?_
   rintro e wk11 ⟨rfl, hb1⟩
   rw [World.size_alloc] at hb1
   go_wp2_with fail
   refine (HI.out _).mono ?_
   rintro e wk12 ⟨rfl, hbk⟩
   replace hb1 := hb1.trans (hbk.mono (by have := hb1.size; simp at this; omega))
   clear hbk
   go_wp2_with fail
   refine (HD1.out _).mono ?_
   rintro e wk13 ⟨rfl, hbk⟩
   replace hb1 := hb1.trans (hbk.mono (by have := hb1.size; simp at this; omega))
   clear hbk
   go_wp2_with fail
   refine (HD2.out _).mono ?_
   rintro e wk14 ⟨rfl, hbk⟩
   replace hb1 := hb1.trans (hbk.mono (by have := hb1.size; simp at this; omega))
   clear hbk
   go_wp2_with fail
   go_region_held3 (fun w' => True) (first | trivial) ((first | (go_at_call 209; (with_reducible refine (HD3.out _).mono ?_); rintro e wd3 ⟨rfl, hbk⟩)))
   replace hbk := below_of_drew hbk
   replace hb1 := hb1.trans (hbk.mono (by have := hb1.size; simp at this; omega))
   clear hbk
   go_wp2_with fail
   refine (HR.out _).mono ?_
   rintro e wk15 ⟨rfl, hbk⟩
   replace hb1 := hb1.trans (hbk.mono (by have := hb1.size; simp at this; omega))
   clear hbk
   go_wp2_with fail
   refine (HL.out _ (HS.out.below (below_result hb1) (Nat.le_refl _))).mono ?_
   rintro e wk16 ⟨rfl, hbk⟩
   replace hb1 := hb1.trans (hbk.mono (by have := hb1.size; simp at this; omega))
   clear hbk
   obtain ⟨q0, q1, q2, q3, q4⟩ := two_below hb1
   have hbw2 := below_result hb1
   go_wp2_with fail
   refine bodyPost_ret (v := .tuple #[.agg #[.string ⟨la.toArray⟩, .string ⟨lb.toArray⟩], .int .i64 0]) (by simp [results, Tryz.results174, go_sem, q0, q1]) rfl ⟨rfl, ?_⟩
   exact (hbw2.setCell (Nat.le_refl _) _).setCell (Nat.le_refl _) _
 | true =>
   rw [show sgnd true (dval 0 (ta ++ tb)) = -((dval 0 (ta ++ tb) : Nat) : Int) by unfold sgnd; rw [if_pos rfl]] at HL ⊢
   clear hdl3 hdl4 hp0 ho1 ho2 ho3 hds3
   generalize itoa (lowN (-((dval 0 (ta ++ tb) : Nat) : Int)) (q10 : Nat)) = la at *
   generalize itoa (lowD (-((dval 0 (ta ++ tb) : Nat) : Int)) (q10 : Nat)) = lb at *
   generalize decDigits (dval 0 (ta ++ tb)) = d3 at *
   generalize itoa (-((dval 0 (ta ++ tb) : Nat) : Int)) = lm at *
   generalize digS ta = d1 at *
   generalize digS tb = d2 at *
   generalize decDigits q10 = d4 at *
   generalize ta ++ tb = tc at *
   generalize List.replicate tb.length (48 : UInt8) = tz at *
   go_enter Tryz.func174, Tryz.ntmps174
   go_wp2_with fail
   refine (HC.out _).mono ?_
   rintro e wk17 ⟨rfl, hb1⟩
   rw [World.size_alloc] at hb1
   go_wp2_with fail
   refine (HI.out _).mono ?_
   rintro e wk18 ⟨rfl, hbk⟩
   replace hb1 := hb1.trans (hbk.mono (by have := hb1.size; simp at this; omega))
   clear hbk
   go_wp2_with fail
   refine (HD1.out _).mono ?_
   rintro e wk19 ⟨rfl, hbk⟩
   replace hb1 := hb1.trans (hbk.mono (by have := hb1.size; simp at this; omega))
   clear hbk
   go_wp2_with fail
   refine (HD2.out _).mono ?_
   rintro e wk20 ⟨rfl, hbk⟩
   replace hb1 := hb1.trans (hbk.mono (by have := hb1.size; simp at this; omega))
   clear hbk
   go_wp2_with fail
   go_region_held3 (fun w' => True) (first | trivial) ((first | (go_at_call 209; (with_reducible refine (HD3.out _).mono ?_); rintro e wd3 ⟨rfl, hbk⟩)))
   replace hbk := below_of_drew hbk
   replace hb1 := hb1.trans (hbk.mono (by have := hb1.size; simp at this; omega))
   clear hbk
   go_wp2_with fail
   refine (HR.out _).mono ?_
   rintro e wk21 ⟨rfl, hbk⟩
   replace hb1 := hb1.trans (hbk.mono (by have := hb1.size; simp at this; omega))
   clear hbk
   go_wp2_with fail
   refine (HN.out _).mono ?_
   rintro e wk22 ⟨rfl, hbk⟩
   replace hb1 := hb1.trans (hbk.mono (by have := hb1.size; simp at this; omega))
   clear hbk
   go_wp2_with fail
   refine (HL.out _ (HS.out.below (below_result hb1) (Nat.le_refl _))).mono ?_
   rintro e wk23 ⟨rfl, hbk⟩
   replace hb1 := hb1.trans (hbk.mono (by have := hb1.size; simp at this; omega))
   clear hbk
   obtain ⟨q0, q1, q2, q3, q4⟩ := two_below hb1
   have hbw2 := below_result hb1
   go_wp2_with fail
   refine bodyPost_ret (v := .tuple #[.agg #[.string ⟨la.toArray⟩, .string ⟨lb.toArray⟩], .int .i64 0]) (by simp [results, Tryz.results174, go_sem, q0, q1]) rfl ⟨rfl, ?_⟩
   exact (hbw2.setCell (Nat.le_refl _) _).setCell (Nat.le_refl _) _
theorem fracRead_bad (t : List UInt8) (k e : Int) (h : fracRead t k = .bad e) : e ≠ 0 := by
 unfold fracRead at h
 repeat' split at h
 all_goals first | (injection h with h; omega) | cases h
theorem fracOf_bad {s : List UInt8} {e : Int} (h : fracOf s = .bad e) : e ≠ 0 := by
 unfold fracOf at h
 split at h
 ·injection h with h; omega
 ·exact fracRead_bad _ _ _ h
theorem fracRead_good {t : List UInt8} {k : Int} {n d : Nat} (h : fracRead t k = .good n d) (hl : t.length ≤ 400) : 0 < d ∧ (decDigits n).length ≤ 400 ∧ (decDigits d).length ≤ 401 := by
 have h1 : (decDigits 1).length = 1 := by rw [dec_small (by omega)]; rfl
 unfold fracRead at h
 split at h
 ·split at h
  ·rename_i ho
   injection h with h2 h3
   subst h2 h3
   have := dval_len ho
   exact ⟨by omega, by omega, by omega⟩
  ·cases h
 ·split at h
  ·split at h
   ·rename_i ho
    rw [Bool.and_eq_true] at ho
    have e1 := dval_len ho.1
    have e2 := dval_len ho.2
    have e3 : (t.take k.toNat).length ≤ 400 := by rw [List.length_take]; omega
    have e4 : (t.drop (k.toNat + 1)).length ≤ 400 := by rw [List.length_drop]; omega
    split at h
    ·cases h
    ·injection h with h2 h3
     subst h2 h3
     exact ⟨by omega, by omega, by omega⟩
   ·cases h
  ·split at h
   ·rename_i ho
    rw [Bool.and_eq_true] at ho
    injection h with h2 h3
    subst h2 h3
    have e1 := dval_len (okDig_append ho.1 ho.2)
    have e3 : (t.take k.toNat ++ t.drop (k.toNat + 1)).length ≤ 400 := by rw [List.length_append, List.length_take, List.length_drop]; omega
    have e4 : (decDigits (10 ^ (t.length - k.toNat - 1))).length = t.length - k.toNat - 1 + 1 := by rw [dec_pow10]; simp
    exact ⟨Nat.pow_pos (by omega), by omega, by omega⟩
   ·cases h
theorem fracOf_good {s : List UInt8} {n d : Nat} (h : fracOf s = .good n d) : 0 < d ∧ (decDigits n).length ≤ 400 ∧ (decDigits d).length ≤ 401 := by
 unfold fracOf at h
 split at h
 ·cases h
 ·refine fracRead_good h ?_
  have := trimPre_len s [45]
  omega
theorem low_len {n : Int} {d : Int} {k : Nat} (h1 : (decDigits n.natAbs).length ≤ k) (h2 : (decDigits d.natAbs).length ≤ k) : (itoa (lowN n d)).length ≤ k + 1 ∧ (itoa (lowD n d)).length ≤ k + 1 := by
 have a : (lowN n d).natAbs ≤ n.natAbs := by
  unfold lowN
  rw [Int.natAbs_ediv_of_dvd (Int.ofNat_dvd_left.2 (Nat.gcd_dvd_left _ _)), Int.natAbs_natCast]
  exact Nat.div_le_self _ _
 have b : (lowD n d).natAbs ≤ d.natAbs := by
  unfold lowD
  rw [Int.natAbs_ediv_of_dvd (Int.ofNat_dvd_left.2 (Nat.gcd_dvd_right _ _)), Int.natAbs_natCast]
  exact Nat.div_le_self _ _
 have a2 := dec_le_len a
 have b2 := dec_le_len b
 have a3 := itoa_len (lowN n d)
 have b3 := itoa_len (lowD n d)
 omega
theorem numTok_good (b : Bool) (k N D : Nat) : numTok b k (.good N D) = .good 2 (ratText (itoa (lowN (sgnd b N) D)) (itoa (lowD (sgnd b N) D))) (itoa (lowN (sgnd b N) D)) (itoa (lowD (sgnd b N) D)) [] k := rfl
theorem sgnd_abs (b : Bool) (n : Nat) : (sgnd b n).natAbs = n := by unfold sgnd; split <;> omega
set_option maxRecDepth 100000 in
set_option maxHeartbeats 2000000 in
theorem number_any (s : List UInt8) (w : World) (hS : Std w) (hl : s.length ≤ 70000) (h0 : 0 < s.length) (HP : Hid (∀ W, Std W → Calls Tryz.prog 174 #[.string ⟨(s.take (numLen s)).toArray⟩] W fun e w' => e = .returned (frdOut (isNeg (s.take (numLen s))) (fracOf (s.take (numLen s)))) ∧ Below W.heap.size W w')) :
  Calls Tryz.prog 116 #[.string ⟨s.toArray⟩] w fun e w' => NextPost w' (numRead s) e ∧ Below w.heap.size w w' := by
 have HL := Lib.hid (fun W => length_numc (s.drop 1) W (by simp; omega))
 have hle := runLen_le numB (s.drop 1)
 have hx1 : (⟨s.toArray⟩ : ByteArray).extract 1 s.length = ⟨(s.drop 1).toArray⟩ := ba_ext (by rw [ext_eq, mk_toList, mk_toList, List.take_of_length_le (Nat.le_refl _)])
 have hx2 : (⟨s.toArray⟩ : ByteArray).extract 0 (1 + runLen numB (s.drop 1)) = ⟨(s.take (numLen s)).toArray⟩ := ba_ext (by rw [ext_eq]; simp [numLen])
 have HN : Box (numLen s = 1 + runLen numB (s.drop 1)) := ⟨rfl⟩
 unfold numRead
 have hd : (s.drop 1).length = s.length - 1 := by simp
 have hle2 : 1 + runLen numB (s.drop 1) ≤ s.length := by omega
 clear hle hd
 generalize runLen numB (s.drop 1) = m at *
 generalize numLen s = n at *
 have hnm := HN.out
 subst hnm
 clear HN
 generalize s.take (1 + m) = t at *
 generalize s.drop 1 = u at *
 generalize isNeg t = b at *
 have HB : Box (∀ er, fracOf t = .bad er → er ≠ 0) := ⟨fun er h => fracOf_bad h⟩
 have HG : Box (∀ n d, fracOf t = .good n d → (itoa (lowN (sgnd b n) d)).length ≤ 1000 ∧ (itoa (lowD (sgnd b n) d)).length ≤ 1000) := ⟨fun n d h => by
  obtain ⟨h1, h2, h3⟩ := fracOf_good h
  have := low_len (n := sgnd b n) (d := (d : Int)) (k := 401) (by rw [sgnd_abs]; omega) (by rw [Int.natAbs_natCast]; omega)
  omega⟩
 have HS := Lib.hid hS
 clear hS
 generalize fracOf t = fr at *
 cases fr with
 | bad er =>
   rw [frdOut_bad] at HP
   have her : (er != 0) = true := by have := HB.out er rfl; simpa using this
   go_enter Tryz.func116, Tryz.ntmps116
   go_wp2_with fail
   refine (HL.out _).mono ?_
   rintro e w1 ⟨rfl, rfl⟩
   go_wp2_with fail
   refine (HP.out _ (HS.out.alloc _)).mono ?_
   rintro e w2 ⟨rfl, hb1⟩
   rw [World.size_alloc] at hb1
   obtain ⟨⟨q0, q1, q2, q3, q4, q5, q6⟩, ⟨f0, f1, f2, f3, f4, f5, f6⟩, hsz⟩ := tok_below hb1
   have hbw2 := below_result hb1
   go_wp2_with fail
   refine bodyPost_ret (v := .tuple #[.agg #[.int .i64 0, .string ⟨#[]⟩, .string ⟨#[]⟩, .string ⟨#[]⟩, .slice Option.none 0 0, .int .i64 0, .int .i64 0], .int .i64 0, .int .i64 2]) (by simp [results, Tryz.results116, go_sem, q0, q1, q2, q3, q4, q5, q6, hsz]) rfl ⟨rfl, ?_⟩
   exact (below7 hbw2 _ _ _ _ _ _ _).alloc (by have := hbw2.size; simp; omega) _
 | good N D =>
   rw [frdOut_good] at HP
   rw [numTok_good]
   obtain ⟨hla, hlb⟩ := HG.out N D rfl
   generalize itoa (lowN (sgnd b N) D) = la at *
   generalize itoa (lowD (sgnd b N) D) = lb at *
   have HT := Lib.hid (fun W => fracText_any la lb W (by omega) (by omega))
   generalize ratText la lb = lt at *
   go_enter Tryz.func116, Tryz.ntmps116
   go_wp2_with fail
   refine (HL.out _).mono ?_
   rintro e w1 ⟨rfl, rfl⟩
   go_wp2_with fail
   refine (HP.out _ (HS.out.alloc _)).mono ?_
   rintro e w2 ⟨rfl, hb1⟩
   rw [World.size_alloc] at hb1
   obtain ⟨⟨q0, q1, q2, q3, q4, q5, q6⟩, ⟨f0, f1, f2, f3, f4, f5, f6⟩, hsz⟩ := tok_below hb1
   have hbw2 := below_result hb1
   go_wp2_with fail
   have r0 : (w2.alloc (.cells #[.string ⟨la.toArray⟩, .string ⟨lb.toArray⟩] 51)).cell? ⟨w2.heap.size, 0, Option.none⟩ = some (.string ⟨la.toArray⟩) := by rw [World.cell?_alloc_new]; rfl
   have r1 : (w2.alloc (.cells #[.string ⟨la.toArray⟩, .string ⟨lb.toArray⟩] 51)).cell? ⟨w2.heap.size, 1, Option.none⟩ = some (.string ⟨lb.toArray⟩) := by rw [World.cell?_alloc_new]; rfl
   replace hb1 := hb1.alloc (by have := hb1.size; simp at this; omega) (.cells #[.string ⟨la.toArray⟩, .string ⟨lb.toArray⟩] 51)
   clear q0 q1 q2 q3 q4 q5 q6 f0 f1 f2 f3 f4 f5 f6
   generalize hWQ : w2.alloc (.cells #[.string ⟨la.toArray⟩, .string ⟨lb.toArray⟩] 51) = WQ at *
   have hne : w2.heap.size ≠ w.heap.size := by omega
   have hne2 : w.heap.size ≠ w2.heap.size := by omega
   clear hWQ hsz hbw2
   go_region_held3 (fun w' => w'.cell? ⟨w2.heap.size, 0, Option.none⟩ = some (.string ⟨la.toArray⟩) ∧ w'.cell? ⟨w2.heap.size, 1, Option.none⟩ = some (.string ⟨lb.toArray⟩))
    (first | go_keep | exact ⟨keep_drew r0 hbk, keep_drew r1 hbk⟩)
    ((first | (go_at_call 59; (with_reducible refine (HT.out _).mono ?_); rintro e w5 ⟨rfl, hbk⟩; obtain ⟨⟨q0, q1, q2, q3, q4, q5, q6⟩, ⟨f0, f1, f2, f3, f4, f5, f6⟩, hsz⟩ := tok_below (hb1.trans ((below_of_drew hbk).mono (by have := hb1.size; simp at this; omega))))))
   have hb2 := hb1.trans ((below_of_drew hbk).mono (by have := hb1.size; simp at this; omega))
   have hbw2 := below_result hb2
   go_wp2_with fail
   refine bodyPost_ret (v := .tuple #[.agg #[.int .i64 2, .string ⟨lt.toArray⟩, .string ⟨la.toArray⟩, .string ⟨lb.toArray⟩, .slice Option.none 0 0, .int .i64 0, .int .i64 0], .int .i64 (1 + m : Nat), .int .i64 0]) (by simp [results, Tryz.results116, go_sem, q0, q1, q2, q3, q4, q5, q6]) rfl ⟨⟨.slice Option.none 0 0, rfl, TRow.nil _ _ _ (by unfold maxLen; omega)⟩, ?_⟩
   exact below7 hbw2 _ _ _ _ _ _ _
theorem indexByte_bd : ∀ (l : List UInt8) (c : UInt8), -1 ≤ Lib.indexByte l c ∧ Lib.indexByte l c < l.length
 | [], c => ⟨by rw [Lib.indexByte]; omega, by rw [Lib.indexByte]; simp⟩
 | b :: t, c => by
   have ih := indexByte_bd t c
   rw [Lib.indexByte, List.length_cons]
   split
   ·omega
   ·split
    ·omega
    ·omega
theorem innerRead_bad {l : List UInt8} {k : Bool} {e : Int} (h : innerRead l k = .bad e) : e ≠ 0 := by
 unfold innerRead at h
 repeat' split at h
 all_goals first | (injection h with h; omega) | cases h
theorem rowRead_bad {s : List UInt8} {e : Int} (h : rowRead s = .bad e) : e ≠ 0 := by
 unfold rowRead endRead at h
 repeat' split at h
 all_goals first | exact innerRead_bad h | (injection h with h; omega) | cases h
theorem block_below {w w' : World} {o : Obj} (hb : Below (w.heap.size + 1) (w.alloc o) w') : w'.heap[w.heap.size]? = some o := (hb.block _ (by omega)).trans (heap_alloc_new _ _)
theorem TRow.store7 {w w2 : World} {v : Value} {x : List Int} {cs : Array Value} {T : TypeId} {p : Nat × Nat} (h : TRow w2 v x) (hg : w2.heap[w.heap.size]? = some (Obj.cells cs T p)) (hT : T ≠ 3) (a0 a1 a2 a3 a4 a5 a6 : Value) :
  TRow (((((((w2.setCell ⟨w.heap.size, 0, Option.none⟩ a0).setCell ⟨w.heap.size, 1, Option.none⟩ a1).setCell ⟨w.heap.size, 2, Option.none⟩ a2).setCell ⟨w.heap.size, 3, Option.none⟩ a3).setCell ⟨w.heap.size, 4, Option.none⟩ a4).setCell ⟨w.heap.size, 5, Option.none⟩ a5).setCell ⟨w.heap.size, 6, Option.none⟩ a6) v x := by
 refine h.keep fun g cur q hc => ?_
 have hne : g ≠ w.heap.size := fun e => by
  subst e
  rw [hg] at hc
  injection hc with hc
  injection hc with _ hc _
  exact hT hc
 rw [Below.heap_setCell _ _ _ _ hne, Below.heap_setCell _ _ _ _ hne, Below.heap_setCell _ _ _ _ hne, Below.heap_setCell _ _ _ _ hne, Below.heap_setCell _ _ _ _ hne, Below.heap_setCell _ _ _ _ hne, Below.heap_setCell _ _ _ _ hne]
set_option maxRecDepth 100000 in
set_option maxHeartbeats 2000000 in
theorem bracket_any (s : List UInt8) (w : World) (hS : Std w) (hL : LenIs w) (hl : s.length ≤ 70000) (h0 : 0 < s.length) :
  Calls Tryz.prog 117 #[.string ⟨s.toArray⟩] w fun e w' => TokPost w' (brackRead s) e ∧ Below w.heap.size w w' := by
 have hx0 := ba_at s 0
 have HI := Lib.hid (fun W => indexByte_any s (brackEnd s) W)
 obtain ⟨hge, hlt⟩ := indexByte_bd s (brackEnd s)
 have hbl : Lib.indexByte s (brackEnd s) + 1 = ((brackLen s : Nat) : Int) := by unfold brackLen; omega
 have hbl2 : brackLen s ≤ s.length := by omega
 have HR := Lib.hid (fun W h1 h2 => rowParse_any (s.take (brackLen s)) W h1 h2 (by rw [List.length_take]; omega))
 have hx2 : (⟨s.toArray⟩ : ByteArray).extract 0 (brackLen s) = ⟨(s.take (brackLen s)).toArray⟩ := ba_ext (by rw [ext_eq]; simp)
 unfold brackRead
 have HB : Box (∀ er, rowRead (s.take (brackLen s)) = .bad er → er ≠ 0) := ⟨fun er h => rowRead_bad h⟩
 have HTL : Box ((s.take (brackLen s)).length = brackLen s) := ⟨by rw [List.length_take]; omega⟩
 generalize rowRead (s.take (brackLen s)) = rr at *
 generalize s.take (brackLen s) = t at *
 generalize brackLen s = n at *
 have HS := Lib.hid hS
 have HLI := Lib.hid hL
 clear hS hL
 have HK : Box ((s[0]?.getD 0 = 60 ∧ brackEnd s = 93 ∧ brackKind s = 4) ∨ (s[0]?.getD 0 ≠ 60 ∧ brackEnd s = 62 ∧ brackKind s = 3)) := ⟨by
  unfold brackEnd brackKind
  by_cases h : s[0]?.getD 0 = 60
  ·rw [if_pos h, if_pos h]; exact .inl ⟨h, rfl, rfl⟩
  ·rw [if_neg h, if_neg h]; exact .inr ⟨h, rfl, rfl⟩⟩
 generalize brackEnd s = be at *
 generalize brackKind s = bk at *
 generalize s[0]?.getD 0 = c at *
 generalize Lib.indexByte s be = ix at *
 have hix : IntKind.i64.wrap (ix + 1) = (n : Int) := by rw [hbl]; exact wrap_small _ (by omega) (by omega)
 by_cases hn0 : n = 0
 ·rw [if_pos hn0]
  obtain ⟨hc, rfl, rfl⟩ | ⟨hc, rfl, rfl⟩ := HK.out
  ·have hq : ((c.toNat : Int) == 60) = true := by rw [hc]; rfl
   clear HB HR HTL HK hc
   go_enter Tryz.func117, Tryz.ntmps117
   go_wp2_with fail
   refine (HI.out _).mono ?_
   rintro e w1 ⟨rfl, rfl⟩
   go_wp2_with fail
   refine bodyPost_ret (v := .tuple #[.agg #[.int .i64 0, .string ⟨#[]⟩, .string ⟨#[]⟩, .string ⟨#[]⟩, .slice Option.none 0 0, .int .i64 0, .int .i64 0], .int .i64 15]) (by simp [results, Tryz.results117, go_sem]) rfl ⟨rfl, ?_⟩
   exact (Below.refl _ _).alloc (Nat.le_refl _) _
  ·have hq : ((c.toNat : Int) == 60) = false := by rw [beq_eq_false_iff_ne]; intro hh; exact hc (UInt8.toNat_inj.1 (by show c.toNat = 60; omega))
   clear HB HR HTL HK hc
   go_enter Tryz.func117, Tryz.ntmps117
   go_wp2_with fail
   refine (HI.out _).mono ?_
   rintro e w1 ⟨rfl, rfl⟩
   go_wp2_with fail
   refine bodyPost_ret (v := .tuple #[.agg #[.int .i64 0, .string ⟨#[]⟩, .string ⟨#[]⟩, .string ⟨#[]⟩, .slice Option.none 0 0, .int .i64 0, .int .i64 0], .int .i64 15]) (by simp [results, Tryz.results117, go_sem]) rfl ⟨rfl, ?_⟩
   exact (Below.refl _ _).alloc (Nat.le_refl _) _
 rw [if_neg hn0]
 cases rr with
 | bad er =>
   have her : (er != 0) = true := by have := HB.out er rfl; simpa using this
   obtain ⟨hc, rfl, rfl⟩ | ⟨hc, rfl, rfl⟩ := HK.out
   ·have hq : ((c.toNat : Int) == 60) = true := by rw [hc]; rfl
    clear HK hc HTL
    go_enter Tryz.func117, Tryz.ntmps117
    go_wp2_with fail
    refine (HI.out _).mono ?_
    rintro e w1 ⟨rfl, rfl⟩
    go_wp2_with fail
    refine (HR.out _ (HS.out.alloc _) (HLI.out.below ((Below.refl _ _).alloc (Nat.le_refl _) _))).mono ?_
    rintro e w2 ⟨rfl, hb1⟩
    rw [World.size_alloc] at hb1
    obtain ⟨⟨q0, q1, q2, q3, q4, q5, q6⟩, ⟨f0, f1, f2, f3, f4, f5, f6⟩, hsz⟩ := tok_below hb1
    have hbw2 := below_result hb1
    go_wp2_with fail
    refine bodyPost_ret (v := .tuple #[.agg #[.int .i64 0, .string ⟨#[]⟩, .string ⟨#[]⟩, .string ⟨#[]⟩, .slice Option.none 0 0, .int .i64 0, .int .i64 0], .int .i64 er]) (by simp [results, Tryz.results117, go_sem, q0, q1, q2, q3, q4, q5, q6]) rfl ⟨rfl, ?_⟩
    exact below7 hbw2 _ _ _ _ _ _ _
   ·have hq : ((c.toNat : Int) == 60) = false := by rw [beq_eq_false_iff_ne]; intro hh; exact hc (UInt8.toNat_inj.1 (by show c.toNat = 60; omega))
    clear HK hc HTL
    go_enter Tryz.func117, Tryz.ntmps117
    go_wp2_with fail
    refine (HI.out _).mono ?_
    rintro e w1 ⟨rfl, rfl⟩
    go_wp2_with fail
    refine (HR.out _ (HS.out.alloc _) (HLI.out.below ((Below.refl _ _).alloc (Nat.le_refl _) _))).mono ?_
    rintro e w2 ⟨rfl, hb1⟩
    rw [World.size_alloc] at hb1
    obtain ⟨⟨q0, q1, q2, q3, q4, q5, q6⟩, ⟨f0, f1, f2, f3, f4, f5, f6⟩, hsz⟩ := tok_below hb1
    have hbw2 := below_result hb1
    go_wp2_with fail
    refine bodyPost_ret (v := .tuple #[.agg #[.int .i64 0, .string ⟨#[]⟩, .string ⟨#[]⟩, .string ⟨#[]⟩, .slice Option.none 0 0, .int .i64 0, .int .i64 0], .int .i64 er]) (by simp [results, Tryz.results117, go_sem, q0, q1, q2, q3, q4, q5, q6]) rfl ⟨rfl, ?_⟩
    exact below7 hbw2 _ _ _ _ _ _ _
 | good x kt =>
   obtain ⟨hc, rfl, rfl⟩ | ⟨hc, rfl, rfl⟩ := HK.out
   ·have hq : ((c.toNat : Int) == 60) = true := by rw [hc]; rfl
    clear HK hc HTL
    go_enter Tryz.func117, Tryz.ntmps117
    go_wp2_with fail
    refine (HI.out _).mono ?_
    rintro e w1 ⟨rfl, rfl⟩
    go_wp2_with fail
    refine (HR.out _ (HS.out.alloc _) (HLI.out.below ((Below.refl _ _).alloc (Nat.le_refl _) _))).mono ?_
    rintro e w2 ⟨⟨A, cc, rfl, htr⟩, hb1⟩
    rw [World.size_alloc] at hb1
    obtain ⟨⟨q0, q1, q2, q3, q4, q5, q6⟩, ⟨f0, f1, f2, f3, f4, f5, f6⟩, hsz⟩ := tok_below hb1
    have hbw2 := below_result hb1
    have HTR := Lib.hid htr
    have HBL := Lib.hid (block_below hb1)
    clear htr
    go_wp2_with fail
    refine bodyPost_ret (v := .tuple #[.agg #[.int .i64 4, .string ⟨t.toArray⟩, .string ⟨#[]⟩, .string ⟨#[]⟩, .slice A x.length cc, .int .i64 0, .int .i64 0], .int .i64 0]) (by simp [results, Tryz.results117, go_sem, q0, q1, q2, q3, q4, q5, q6]) rfl ⟨⟨.slice A x.length cc, rfl, HTR.out.store7 HBL.out (by decide) _ _ _ _ _ _ _⟩, ?_⟩
    exact below7 hbw2 _ _ _ _ _ _ _
   ·have hq : ((c.toNat : Int) == 60) = false := by rw [beq_eq_false_iff_ne]; intro hh; exact hc (UInt8.toNat_inj.1 (by show c.toNat = 60; omega))
    clear HK hc HTL
    go_enter Tryz.func117, Tryz.ntmps117
    go_wp2_with fail
    refine (HI.out _).mono ?_
    rintro e w1 ⟨rfl, rfl⟩
    go_wp2_with fail
    refine (HR.out _ (HS.out.alloc _) (HLI.out.below ((Below.refl _ _).alloc (Nat.le_refl _) _))).mono ?_
    rintro e w2 ⟨⟨A, cc, rfl, htr⟩, hb1⟩
    rw [World.size_alloc] at hb1
    obtain ⟨⟨q0, q1, q2, q3, q4, q5, q6⟩, ⟨f0, f1, f2, f3, f4, f5, f6⟩, hsz⟩ := tok_below hb1
    have hbw2 := below_result hb1
    have HTR := Lib.hid htr
    have HBL := Lib.hid (block_below hb1)
    clear htr
    go_wp2_with fail
    refine bodyPost_ret (v := .tuple #[.agg #[.int .i64 3, .string ⟨t.toArray⟩, .string ⟨#[]⟩, .string ⟨#[]⟩, .slice A x.length cc, .int .i64 0, .int .i64 0], .int .i64 0]) (by simp [results, Tryz.results117, go_sem, q0, q1, q2, q3, q4, q5, q6]) rfl ⟨⟨.slice A x.length cc, rfl, HTR.out.store7 HBL.out (by decide) _ _ _ _ _ _ _⟩, ?_⟩
    exact below7 hbw2 _ _ _ _ _ _ _
theorem part_at {t : List UInt8} {j : Nat} (h : j < t.length) : t = t.take j ++ (t[j]?.getD 0) :: t.drop (j + 1) := by
 rw [List.getElem?_eq_getElem h, Option.getD_some, ← List.drop_eq_getElem_cons h, List.take_append_drop]
theorem fParse_gen (s t : List UInt8) (b : Bool) (k : Int) (w : World) (hS : Std w) (hl : s.length ≤ 400) (ht : t.length ≤ s.length) (hc : CutIs s t b) (hi : IdxIs t k) (hk : k = -1 ∨ ∃ j : Nat, k = j ∧ j < t.length ∧ (t[j]?.getD 0 = 47 ∨ t[j]?.getD 0 = 46)) :
  Calls Tryz.prog 174 #[.string ⟨s.toArray⟩] w fun e w' => e = .returned (frdOut b (fracRead t k)) ∧ Below w.heap.size w w' := by
 rcases hk with rfl | ⟨j, rfl, hj, h⟩
 ·have e : fracRead t (-1) = (if okDig t then .good (dval 0 t) 1 else .bad 15) := by unfold fracRead; rw [if_pos (by omega)]
  rw [e]
  exact fParse_none s t b w hS hl ht hc hi
 ·have hp := part_at hj
  have hjl : (t.take j).length = j := by rw [List.length_take]; omega
  have hdl : (t.drop (j + 1)).length = t.length - j - 1 := by rw [List.length_drop]; omega
  rcases h with h | h
  ·have e : fracRead t (j : Int) = (if okDig (t.take j) && okDig (t.drop (j + 1)) then (if dval 0 (t.drop (j + 1)) = 0 then .bad 17 else .good (dval 0 (t.take j)) (dval 0 (t.drop (j + 1)))) else .bad 15) := by
    unfold fracRead; rw [if_neg (by omega), Int.toNat_natCast, if_pos h]
   rw [e]
   rw [h] at hp
   refine fParse_sl s _ _ b w hS hl ?_ ?_ ?_
   ·rw [← hp]; exact ht
   ·rw [← hp]; exact hc
   ·rw [← hp, hjl]; exact hi
  ·have e : fracRead t (j : Int) = (if okDig (t.take j) && okDig (t.drop (j + 1)) then .good (dval 0 (t.take j ++ t.drop (j + 1))) (10 ^ (t.drop (j + 1)).length) else .bad 15) := by
    unfold fracRead; rw [if_neg (by omega), Int.toNat_natCast, if_neg (by rw [h]; decide), hdl]
   rw [e]
   rw [h] at hp
   refine fParse_pt s _ _ b w hS hl ?_ ?_ ?_
   ·rw [← hp]; exact ht
   ·rw [← hp]; exact hc
   ·rw [← hp, hjl]; exact hi
theorem cut_is (s : List UInt8) : CutIs s (Lib.trimPrefix s [45]) (Lib.hasPrefix s [45]) := fun W => cutPrefix_any s [45] W
theorem indexAny_place : ∀ (t : List UInt8), Lib.indexAny t [47, 46] = -1 ∨ ∃ j : Nat, Lib.indexAny t [47, 46] = j ∧ j < t.length ∧ (t[j]?.getD 0 = 47 ∨ t[j]?.getD 0 = 46)
 | [] => .inl rfl
 | c :: t => by
   rw [Lib.indexAny]
   cases hc : ([47, 46] : List UInt8).contains c with
   | true =>
     rw [if_pos rfl]
     refine .inr ⟨0, rfl, by simp, ?_⟩
     rw [List.contains_iff_mem] at hc
     simpa using hc
   | false =>
     rw [if_neg (by decide)]
     rcases indexAny_place t with h | ⟨j, h, hj, hx⟩
     ·rw [h]; exact .inl rfl
     ·rw [h, if_neg (by rw [beq_iff_eq]; omega)]
      exact .inr ⟨j + 1, by omega, by simp; omega, by simpa using hx⟩
theorem fParse_ascii (s : List UInt8) (w : World) (hS : Std w) (hl : s.length ≤ 1000000) (ha : ∀ x ∈ s, x.toNat < 128) :
  Calls Tryz.prog 174 #[.string ⟨s.toArray⟩] w fun e w' => e = .returned (frdOut (isNeg s) (fracOf s)) ∧ Below w.heap.size w w' := by
 unfold isNeg fracOf
 by_cases h : 400 < s.length
 ·rw [if_pos h, if_pos h]; exact fParse_long s w h hl
 ·rw [if_neg h, if_neg h]
  have htl := trimPre_len s [45]
  refine fParse_gen s _ _ _ w hS (by omega) htl (cut_is s) (fun W => indexAny_ascii _ [47, 46] W (by omega) (by decide) (fun x hx => ha x ?_) (by decide)) (indexAny_place _)
  unfold Lib.trimPrefix at hx
  split at hx
  ·exact List.mem_of_mem_drop hx
  ·exact hx
theorem tokPost_bad {w' : World} {er : Int} {e : Ending} (h : TokPost w' (.bad er) e) : e = .returned (.tuple #[.agg #[.int .i64 0, .string ⟨#[]⟩, .string ⟨#[]⟩, .string ⟨#[]⟩, .slice Option.none 0 0, .int .i64 0, .int .i64 0], .int .i64 er]) := h
theorem tokPost_good {w' : World} {kd : Int} {t n d : List UInt8} {x : List Int} {m : Nat} {e : Ending} (h : TokPost w' (.good kd t n d x m) e) : ∃ A c, e = .returned (.tuple #[.agg #[.int .i64 kd, .string ⟨t.toArray⟩, .string ⟨n.toArray⟩, .string ⟨d.toArray⟩, .slice A x.length c, .int .i64 0, .int .i64 0], .int .i64 0]) ∧ TRow w' (.slice A x.length c) x := by
 obtain ⟨rv, he, ht⟩ := h
 have ht' := ht
 obtain ⟨A, c, rfl, _⟩ := ht'
 exact ⟨A, c, he, ht⟩
theorem nextPost_bad {w' : World} {er : Int} {e : Ending} (h : NextPost w' (.bad er) e) : e = .returned (.tuple #[.agg #[.int .i64 0, .string ⟨#[]⟩, .string ⟨#[]⟩, .string ⟨#[]⟩, .slice Option.none 0 0, .int .i64 0, .int .i64 0], .int .i64 0, .int .i64 er]) := h
theorem nextPost_good {w' : World} {kd : Int} {t n d : List UInt8} {x : List Int} {m : Nat} {e : Ending} (h : NextPost w' (.good kd t n d x m) e) : ∃ A c, e = .returned (.tuple #[.agg #[.int .i64 kd, .string ⟨t.toArray⟩, .string ⟨n.toArray⟩, .string ⟨d.toArray⟩, .slice A x.length c, .int .i64 0, .int .i64 0], .int .i64 m, .int .i64 0]) ∧ TRow w' (.slice A x.length c) x := by
 obtain ⟨rv, he, ht⟩ := h
 have ht' := ht
 obtain ⟨A, c, rfl, _⟩ := ht'
 exact ⟨A, c, he, ht⟩
theorem Cells.store7 {w2 : World} {g : Nat} {T : TypeId} {xs : List Value} (h : Cells w2 g T xs) (a0 a1 a2 a3 a4 a5 a6 : Value) :
  Cells (((((((w2.setCell ⟨g, 0, Option.none⟩ a0).setCell ⟨g, 1, Option.none⟩ a1).setCell ⟨g, 2, Option.none⟩ a2).setCell ⟨g, 3, Option.none⟩ a3).setCell ⟨g, 4, Option.none⟩ a4).setCell ⟨g, 5, Option.none⟩ a5).setCell ⟨g, 6, Option.none⟩ a6) g T (((((((xs.set 0 a0).set 1 a1).set 2 a2).set 3 a3).set 4 a4).set 5 a5).set 6 a6) :=
 ((((((h.set 0 a0).set 1 a1).set 2 a2).set 3 a3).set 4 a4).set 5 a5).set 6 a6
set_option maxRecDepth 100000 in
set_option maxHeartbeats 4000000 in
theorem next_word (s : List UInt8) (w : World) (hl : s.length ≤ 70000) (h0 : 0 < s.length) (h : letB (s[0]?.getD 0) = true) :
  Calls Tryz.prog 78 #[.string ⟨s.toArray⟩] w fun e w' => NextPost w' (wordRead s) e ∧ Below w.heap.size w w' := by
 have hx0 := ba_at s 0
 have HL := Lib.hid (fun W => letter_any (s[0]?.getD 0) W)
 rw [h] at HL
 have HW := Lib.hid (fun W => word_any s W (by omega))
 have HM : Box (∀ kd t n d x m, wordRead s = .good kd t n d x m → m = t.length ∧ t.length ≤ 70000) := ⟨fun kd t n d x m hh => by
  unfold wordRead at hh
  split at hh
  ·cases hh
  ·injection hh with _ h2 _ _ _ h6
   subst h2 h6
   have := runLen_le partB s
   rw [List.length_take]
   omega⟩
 generalize wordRead s = rr at *
 generalize s[0]?.getD 0 = c at *
 clear h
 cases rr with
 | bad er =>
   go_enter Tryz.func78, Tryz.ntmps78
   go_wp2_with fail
   refine (HL.out _).mono ?_
   rintro e w1 ⟨rfl, rfl⟩
   go_wp2_with fail
   refine (HW.out _).mono ?_
   rintro e w2 ⟨he, hb1⟩
   obtain rfl := tokPost_bad he
   rw [World.size_alloc] at hb1
   obtain ⟨⟨q0, q1, q2, q3, q4, q5, q6⟩, ⟨f0, f1, f2, f3, f4, f5, f6⟩, hsz⟩ := tok_below hb1
   have hbw2 := below_result hb1
   go_wp2_with fail
   refine bodyPost_ret (v := .tuple #[.agg #[.int .i64 0, .string ⟨#[]⟩, .string ⟨#[]⟩, .string ⟨#[]⟩, .slice Option.none 0 0, .int .i64 0, .int .i64 0], .int .i64 0, .int .i64 er]) (by simp (maxDischargeDepth := 10) [results, Tryz.results78, go_sem, q0, q1, q2, q3, q4, q5, q6]) rfl ⟨rfl, ?_⟩
   exact below7 (below7 hbw2 _ _ _ _ _ _ _) _ _ _ _ _ _ _
 | good kd t n d x m =>
   have HM2 : Box (m = t.length) := ⟨(HM.out _ _ _ _ _ _ rfl).1⟩
   have hml := (HM.out _ _ _ _ _ _ rfl).2
   clear HM
   go_enter Tryz.func78, Tryz.ntmps78
   go_wp2_with fail
   refine (HL.out _).mono ?_
   rintro e w1 ⟨rfl, rfl⟩
   go_wp2_with fail
   refine (HW.out _).mono ?_
   rintro e w2 ⟨he, hb1⟩
   obtain ⟨A, cc, rfl, htr⟩ := tokPost_good he
   rw [World.size_alloc] at hb1
   obtain ⟨⟨q0, q1, q2, q3, q4, q5, q6⟩, ⟨f0, f1, f2, f3, f4, f5, f6⟩, hsz⟩ := tok_below hb1
   have hbw2 := below_result hb1
   have HTR := Lib.hid htr
   have HBL := Lib.hid (cells_of_below hb1)
   clear htr he
   go_wp2_with fail
   refine bodyPost_ret (v := .tuple #[.agg #[.int .i64 kd, .string ⟨t.toArray⟩, .string ⟨n.toArray⟩, .string ⟨d.toArray⟩, .slice A x.length cc, .int .i64 0, .int .i64 0], .int .i64 t.length, .int .i64 0]) (by simp (maxDischargeDepth := 10) [results, Tryz.results78, go_sem, q0, q1, q2, q3, q4, q5, q6]) rfl ⟨⟨.slice A x.length cc, by rw [HM2.out]; rfl, ?_⟩, ?_⟩
   ·exact (HTR.out.store7 HBL.out (by decide) _ _ _ _ _ _ _).store7 (Cells.store7 HBL.out _ _ _ _ _ _ _) (by decide) _ _ _ _ _ _ _
   ·exact below7 (below7 hbw2 _ _ _ _ _ _ _) _ _ _ _ _ _ _
set_option maxRecDepth 100000 in
set_option maxHeartbeats 4000000 in
theorem next_num (s : List UInt8) (w : World) (hS : Std w) (hl : s.length ≤ 70000) (h0 : 0 < s.length) (h1 : letB (s[0]?.getD 0) = false) (h2 : digB (s[0]?.getD 0) = true) (ha : ∀ x ∈ s.take (numLen s), x.toNat < 128) :
  Calls Tryz.prog 78 #[.string ⟨s.toArray⟩] w fun e w' => NextPost w' (numRead s) e ∧ Below w.heap.size w w' := by
 have hx0 := ba_at s 0
 have HL := Lib.hid (fun W => letter_any (s[0]?.getD 0) W)
 rw [h1] at HL
 have HD := Lib.hid (fun W => digit_any (s[0]?.getD 0) W)
 have HN := Lib.hid (fun W hW => number_any s W hW hl h0 (Lib.hid (fun W2 hW2 => fParse_ascii (s.take (numLen s)) W2 hW2 (by rw [List.length_take]; omega) ha)))
 have HS := Lib.hid hS
 clear hS ha
 generalize numRead s = rr at *
 rw [h2] at HD
 generalize s[0]?.getD 0 = c at *
 clear h1 h2
 cases rr with
 | bad er =>
   go_enter Tryz.func78, Tryz.ntmps78
   go_wp2_with fail
   refine (HL.out _).mono ?_
   rintro e w1 ⟨rfl, rfl⟩
   go_wp2_with fail
   refine (HD.out _).mono ?_
   rintro e w1 ⟨rfl, rfl⟩
   go_wp2_with fail
   refine (HN.out _ (HS.out.alloc _)).mono ?_
   rintro e w2 ⟨he, hb1⟩
   obtain rfl := nextPost_bad he
   rw [World.size_alloc] at hb1
   obtain ⟨⟨q0, q1, q2, q3, q4, q5, q6⟩, ⟨f0, f1, f2, f3, f4, f5, f6⟩, hsz⟩ := tok_below hb1
   have hbw2 := below_result hb1
   go_wp2_with fail
   refine bodyPost_ret (v := .tuple #[.agg #[.int .i64 0, .string ⟨#[]⟩, .string ⟨#[]⟩, .string ⟨#[]⟩, .slice Option.none 0 0, .int .i64 0, .int .i64 0], .int .i64 0, .int .i64 er]) (by simp (maxDischargeDepth := 10) [results, Tryz.results78, go_sem, q0, q1, q2, q3, q4, q5, q6]) rfl ⟨rfl, ?_⟩
   exact below7 hbw2 _ _ _ _ _ _ _
 | good kd t n d x m =>
   go_enter Tryz.func78, Tryz.ntmps78
   go_wp2_with fail
   refine (HL.out _).mono ?_
   rintro e w1 ⟨rfl, rfl⟩
   go_wp2_with fail
   refine (HD.out _).mono ?_
   rintro e w1 ⟨rfl, rfl⟩
   go_wp2_with fail
   refine (HN.out _ (HS.out.alloc _)).mono ?_
   rintro e w2 ⟨he, hb1⟩
   obtain ⟨A, cc, rfl, htr⟩ := nextPost_good he
   rw [World.size_alloc] at hb1
   obtain ⟨⟨q0, q1, q2, q3, q4, q5, q6⟩, ⟨f0, f1, f2, f3, f4, f5, f6⟩, hsz⟩ := tok_below hb1
   have hbw2 := below_result hb1
   have HTR := Lib.hid htr
   have HBL := Lib.hid (cells_of_below hb1)
   clear htr he
   go_wp2_with fail
   refine bodyPost_ret (v := .tuple #[.agg #[.int .i64 kd, .string ⟨t.toArray⟩, .string ⟨n.toArray⟩, .string ⟨d.toArray⟩, .slice A x.length cc, .int .i64 0, .int .i64 0], .int .i64 m, .int .i64 0]) (by simp (maxDischargeDepth := 10) [results, Tryz.results78, go_sem, q0, q1, q2, q3, q4, q5, q6]) rfl ⟨⟨.slice A x.length cc, rfl, ?_⟩, ?_⟩
   ·exact HTR.out.store7 HBL.out (by decide) _ _ _ _ _ _ _
   ·exact below7 hbw2 _ _ _ _ _ _ _
set_option maxRecDepth 100000 in
set_option maxHeartbeats 4000000 in
theorem next_neg (s : List UInt8) (w : World) (hS : Std w) (hl : s.length ≤ 70000) (h0 : 0 < s.length) (h1 : letB (s[0]?.getD 0) = false) (h2 : digB (s[0]?.getD 0) = false) (h3 : s[0]?.getD 0 = 45) (h4 : 1 < s.length) (h5 : digB (s[1]?.getD 0) = true) (ha : ∀ x ∈ s.take (numLen s), x.toNat < 128) :
  Calls Tryz.prog 78 #[.string ⟨s.toArray⟩] w fun e w' => NextPost w' (numRead s) e ∧ Below w.heap.size w w' := by
 have hx0 := ba_at s 0
 have HL := Lib.hid (fun W => letter_any (s[0]?.getD 0) W)
 rw [h1] at HL
 have HD := Lib.hid (fun W => digit_any (s[0]?.getD 0) W)
 have HN := Lib.hid (fun W hW => number_any s W hW hl h0 (Lib.hid (fun W2 hW2 => fParse_ascii (s.take (numLen s)) W2 hW2 (by rw [List.length_take]; omega) ha)))
 have HS := Lib.hid hS
 clear hS ha
 generalize numRead s = rr at *
 rw [h2] at HD
 have hx1 := ba_at s 1
 have HD2 := Lib.hid (fun W => digit_any (s[1]?.getD 0) W)
 rw [h5] at HD2
 have hq : (((s[0]?.getD 0).toNat : Int) == 45) = true := by rw [h3]; rfl
 generalize s[0]?.getD 0 = c at *
 generalize s[1]?.getD 0 = c1 at *
 clear h1 h2 h3 h5
 cases rr with
 | bad er =>
   go_enter Tryz.func78, Tryz.ntmps78
   go_wp2_with fail
   refine (HL.out _).mono ?_
   rintro e w1 ⟨rfl, rfl⟩
   go_wp2_with fail
   refine (HD.out _).mono ?_
   rintro e w1 ⟨rfl, rfl⟩
   go_wp2_with fail
   refine (HD2.out _).mono ?_
   rintro e w1 ⟨rfl, rfl⟩
   go_wp2_with fail
   refine (HN.out _ (HS.out.alloc _)).mono ?_
   rintro e w2 ⟨he, hb1⟩
   obtain rfl := nextPost_bad he
   rw [World.size_alloc] at hb1
   obtain ⟨⟨q0, q1, q2, q3, q4, q5, q6⟩, ⟨f0, f1, f2, f3, f4, f5, f6⟩, hsz⟩ := tok_below hb1
   have hbw2 := below_result hb1
   go_wp2_with fail
   refine bodyPost_ret (v := .tuple #[.agg #[.int .i64 0, .string ⟨#[]⟩, .string ⟨#[]⟩, .string ⟨#[]⟩, .slice Option.none 0 0, .int .i64 0, .int .i64 0], .int .i64 0, .int .i64 er]) (by simp (maxDischargeDepth := 10) [results, Tryz.results78, go_sem, q0, q1, q2, q3, q4, q5, q6]) rfl ⟨rfl, ?_⟩
   exact below7 hbw2 _ _ _ _ _ _ _
 | good kd t n d x m =>
   go_enter Tryz.func78, Tryz.ntmps78
   go_wp2_with fail
   refine (HL.out _).mono ?_
   rintro e w1 ⟨rfl, rfl⟩
   go_wp2_with fail
   refine (HD.out _).mono ?_
   rintro e w1 ⟨rfl, rfl⟩
   go_wp2_with fail
   refine (HD2.out _).mono ?_
   rintro e w1 ⟨rfl, rfl⟩
   go_wp2_with fail
   refine (HN.out _ (HS.out.alloc _)).mono ?_
   rintro e w2 ⟨he, hb1⟩
   obtain ⟨A, cc, rfl, htr⟩ := nextPost_good he
   rw [World.size_alloc] at hb1
   obtain ⟨⟨q0, q1, q2, q3, q4, q5, q6⟩, ⟨f0, f1, f2, f3, f4, f5, f6⟩, hsz⟩ := tok_below hb1
   have hbw2 := below_result hb1
   have HTR := Lib.hid htr
   have HBL := Lib.hid (cells_of_below hb1)
   clear htr he
   go_wp2_with fail
   refine bodyPost_ret (v := .tuple #[.agg #[.int .i64 kd, .string ⟨t.toArray⟩, .string ⟨n.toArray⟩, .string ⟨d.toArray⟩, .slice A x.length cc, .int .i64 0, .int .i64 0], .int .i64 m, .int .i64 0]) (by simp (maxDischargeDepth := 10) [results, Tryz.results78, go_sem, q0, q1, q2, q3, q4, q5, q6]) rfl ⟨⟨.slice A x.length cc, rfl, ?_⟩, ?_⟩
   ·exact HTR.out.store7 HBL.out (by decide) _ _ _ _ _ _ _
   ·exact below7 hbw2 _ _ _ _ _ _ _
set_option maxRecDepth 100000 in
set_option maxHeartbeats 4000000 in
theorem next_brack91 (s : List UInt8) (w : World) (hS : Std w) (hL : LenIs w) (hl : s.length ≤ 70000) (h0 : 0 < s.length) (h : s[0]?.getD 0 = 91) :
  Calls Tryz.prog 78 #[.string ⟨s.toArray⟩] w fun e w' => NextPost w' (brackRead s) e ∧ Below w.heap.size w w' := by
 have hx0 := ba_at s 0
 have HL := Lib.hid (fun W => letter_any (s[0]?.getD 0) W)
 have HD := Lib.hid (fun W => digit_any (s[0]?.getD 0) W)
 have HW := Lib.hid (fun W h1 h2 => bracket_any s W h1 h2 hl h0)
 have HS := Lib.hid hS
 have HLI := Lib.hid hL
 have HM : Box (∀ kd t n d x m, brackRead s = .good kd t n d x m → m = t.length ∧ t.length ≤ 70000) := ⟨fun kd t n d x m hh => by
  unfold brackRead brackTok at hh
  split at hh
  ·cases hh
  ·split at hh
   ·cases hh
   ·injection hh with _ h2 _ _ _ h6
    subst h2 h6
    rw [List.length_take]
    omega⟩
 generalize brackRead s = rr at *
 rw [h] at hx0 HL HD
 rw [show letB 91 = false by decide] at HL
 rw [show digB 91 = false by decide] at HD
 clear h hS hL
 cases rr with
 | bad er =>
   go_enter Tryz.func78, Tryz.ntmps78
   go_wp2_with fail
   refine (HL.out _).mono ?_
   rintro e w1 ⟨rfl, rfl⟩
   go_wp2_with fail
   refine (HD.out _).mono ?_
   rintro e w1 ⟨rfl, rfl⟩
   go_wp2_with fail
   refine (HW.out _ (HS.out.alloc _) (HLI.out.below ((Below.refl _ _).alloc (Nat.le_refl _) _))).mono ?_
   rintro e w2 ⟨he, hb1⟩
   obtain rfl := tokPost_bad he
   rw [World.size_alloc] at hb1
   obtain ⟨⟨q0, q1, q2, q3, q4, q5, q6⟩, ⟨f0, f1, f2, f3, f4, f5, f6⟩, hsz⟩ := tok_below hb1
   have hbw2 := below_result hb1
   go_wp2_with fail
   refine bodyPost_ret (v := .tuple #[.agg #[.int .i64 0, .string ⟨#[]⟩, .string ⟨#[]⟩, .string ⟨#[]⟩, .slice Option.none 0 0, .int .i64 0, .int .i64 0], .int .i64 0, .int .i64 er]) (by simp (maxDischargeDepth := 10) [results, Tryz.results78, go_sem, q0, q1, q2, q3, q4, q5, q6]) rfl ⟨rfl, ?_⟩
   exact below7 (below7 hbw2 _ _ _ _ _ _ _) _ _ _ _ _ _ _
 | good kd t n d x m =>
   have HM2 : Box (m = t.length) := ⟨(HM.out _ _ _ _ _ _ rfl).1⟩
   have hml := (HM.out _ _ _ _ _ _ rfl).2
   clear HM
   go_enter Tryz.func78, Tryz.ntmps78
   go_wp2_with fail
   refine (HL.out _).mono ?_
   rintro e w1 ⟨rfl, rfl⟩
   go_wp2_with fail
   refine (HD.out _).mono ?_
   rintro e w1 ⟨rfl, rfl⟩
   go_wp2_with fail
   refine (HW.out _ (HS.out.alloc _) (HLI.out.below ((Below.refl _ _).alloc (Nat.le_refl _) _))).mono ?_
   rintro e w2 ⟨he, hb1⟩
   obtain ⟨A, cc, rfl, htr⟩ := tokPost_good he
   rw [World.size_alloc] at hb1
   obtain ⟨⟨q0, q1, q2, q3, q4, q5, q6⟩, ⟨f0, f1, f2, f3, f4, f5, f6⟩, hsz⟩ := tok_below hb1
   have hbw2 := below_result hb1
   have HTR := Lib.hid htr
   have HBL := Lib.hid (cells_of_below hb1)
   clear htr he
   go_wp2_with fail
   refine bodyPost_ret (v := .tuple #[.agg #[.int .i64 kd, .string ⟨t.toArray⟩, .string ⟨n.toArray⟩, .string ⟨d.toArray⟩, .slice A x.length cc, .int .i64 0, .int .i64 0], .int .i64 t.length, .int .i64 0]) (by simp (maxDischargeDepth := 10) [results, Tryz.results78, go_sem, q0, q1, q2, q3, q4, q5, q6]) rfl ⟨⟨.slice A x.length cc, by rw [HM2.out]; rfl, ?_⟩, ?_⟩
   ·exact (HTR.out.store7 HBL.out (by decide) _ _ _ _ _ _ _).store7 (Cells.store7 HBL.out _ _ _ _ _ _ _) (by decide) _ _ _ _ _ _ _
   ·exact below7 (below7 hbw2 _ _ _ _ _ _ _) _ _ _ _ _ _ _
set_option maxRecDepth 100000 in
set_option maxHeartbeats 4000000 in
theorem next_brack60 (s : List UInt8) (w : World) (hS : Std w) (hL : LenIs w) (hl : s.length ≤ 70000) (h0 : 0 < s.length) (h : s[0]?.getD 0 = 60) :
  Calls Tryz.prog 78 #[.string ⟨s.toArray⟩] w fun e w' => NextPost w' (brackRead s) e ∧ Below w.heap.size w w' := by
 have hx0 := ba_at s 0
 have HL := Lib.hid (fun W => letter_any (s[0]?.getD 0) W)
 have HD := Lib.hid (fun W => digit_any (s[0]?.getD 0) W)
 have HW := Lib.hid (fun W h1 h2 => bracket_any s W h1 h2 hl h0)
 have HS := Lib.hid hS
 have HLI := Lib.hid hL
 have HM : Box (∀ kd t n d x m, brackRead s = .good kd t n d x m → m = t.length ∧ t.length ≤ 70000) := ⟨fun kd t n d x m hh => by
  unfold brackRead brackTok at hh
  split at hh
  ·cases hh
  ·split at hh
   ·cases hh
   ·injection hh with _ h2 _ _ _ h6
    subst h2 h6
    rw [List.length_take]
    omega⟩
 generalize brackRead s = rr at *
 rw [h] at hx0 HL HD
 rw [show letB 60 = false by decide] at HL
 rw [show digB 60 = false by decide] at HD
 clear h hS hL
 cases rr with
 | bad er =>
   go_enter Tryz.func78, Tryz.ntmps78
   go_wp2_with fail
   refine (HL.out _).mono ?_
   rintro e w1 ⟨rfl, rfl⟩
   go_wp2_with fail
   refine (HD.out _).mono ?_
   rintro e w1 ⟨rfl, rfl⟩
   go_wp2_with fail
   refine (HW.out _ (HS.out.alloc _) (HLI.out.below ((Below.refl _ _).alloc (Nat.le_refl _) _))).mono ?_
   rintro e w2 ⟨he, hb1⟩
   obtain rfl := tokPost_bad he
   rw [World.size_alloc] at hb1
   obtain ⟨⟨q0, q1, q2, q3, q4, q5, q6⟩, ⟨f0, f1, f2, f3, f4, f5, f6⟩, hsz⟩ := tok_below hb1
   have hbw2 := below_result hb1
   go_wp2_with fail
   refine bodyPost_ret (v := .tuple #[.agg #[.int .i64 0, .string ⟨#[]⟩, .string ⟨#[]⟩, .string ⟨#[]⟩, .slice Option.none 0 0, .int .i64 0, .int .i64 0], .int .i64 0, .int .i64 er]) (by simp (maxDischargeDepth := 10) [results, Tryz.results78, go_sem, q0, q1, q2, q3, q4, q5, q6]) rfl ⟨rfl, ?_⟩
   exact below7 (below7 hbw2 _ _ _ _ _ _ _) _ _ _ _ _ _ _
 | good kd t n d x m =>
   have HM2 : Box (m = t.length) := ⟨(HM.out _ _ _ _ _ _ rfl).1⟩
   have hml := (HM.out _ _ _ _ _ _ rfl).2
   clear HM
   go_enter Tryz.func78, Tryz.ntmps78
   go_wp2_with fail
   refine (HL.out _).mono ?_
   rintro e w1 ⟨rfl, rfl⟩
   go_wp2_with fail
   refine (HD.out _).mono ?_
   rintro e w1 ⟨rfl, rfl⟩
   go_wp2_with fail
   refine (HW.out _ (HS.out.alloc _) (HLI.out.below ((Below.refl _ _).alloc (Nat.le_refl _) _))).mono ?_
   rintro e w2 ⟨he, hb1⟩
   obtain ⟨A, cc, rfl, htr⟩ := tokPost_good he
   rw [World.size_alloc] at hb1
   obtain ⟨⟨q0, q1, q2, q3, q4, q5, q6⟩, ⟨f0, f1, f2, f3, f4, f5, f6⟩, hsz⟩ := tok_below hb1
   have hbw2 := below_result hb1
   have HTR := Lib.hid htr
   have HBL := Lib.hid (cells_of_below hb1)
   clear htr he
   go_wp2_with fail
   refine bodyPost_ret (v := .tuple #[.agg #[.int .i64 kd, .string ⟨t.toArray⟩, .string ⟨n.toArray⟩, .string ⟨d.toArray⟩, .slice A x.length cc, .int .i64 0, .int .i64 0], .int .i64 t.length, .int .i64 0]) (by simp (maxDischargeDepth := 10) [results, Tryz.results78, go_sem, q0, q1, q2, q3, q4, q5, q6]) rfl ⟨⟨.slice A x.length cc, by rw [HM2.out]; rfl, ?_⟩, ?_⟩
   ·exact (HTR.out.store7 HBL.out (by decide) _ _ _ _ _ _ _).store7 (Cells.store7 HBL.out _ _ _ _ _ _ _) (by decide) _ _ _ _ _ _ _
   ·exact below7 (below7 hbw2 _ _ _ _ _ _ _) _ _ _ _ _ _ _
set_option maxRecDepth 100000 in
set_option maxHeartbeats 4000000 in
theorem next_rest_a (s : List UInt8) (w : World) (hl : s.length ≤ 70000) (h0 : 0 < s.length) (h1 : letB (s[0]?.getD 0) = false) (h2 : digB (s[0]?.getD 0) = false) (h3 : s[0]?.getD 0 ≠ 45) (h6 : s[0]?.getD 0 ≠ 91) (h7 : s[0]?.getD 0 ≠ 60) :
  Calls Tryz.prog 78 #[.string ⟨s.toArray⟩] w fun e w' => NextPost w' (if 0 ≤ Lib.indexByte marks (s[0]?.getD 0) then .good 5 (s.take 1) [] [] [] 1 else .bad 15) e ∧ Below w.heap.size w w' := by
 have hx0 := ba_at s 0
 have HL := Lib.hid (fun W => letter_any (s[0]?.getD 0) W)
 rw [h1] at HL
 have HD := Lib.hid (fun W => digit_any (s[0]?.getD 0) W)
 rw [h2] at HD
 have HI := Lib.hid (fun W => indexByte_any marks (s[0]?.getD 0) W)
 have hq : (((s[0]?.getD 0).toNat : Int) == 45) = false := by rw [beq_eq_false_iff_ne]; intro hh; exact h3 (UInt8.toNat_inj.1 (by show (s[0]?.getD 0).toNat = 45; omega))
 have hq2 : (((s[0]?.getD 0).toNat : Int) == 91) = false := by rw [beq_eq_false_iff_ne]; intro hh; exact h6 (UInt8.toNat_inj.1 (by show (s[0]?.getD 0).toNat = 91; omega))
 have hq3 : (((s[0]?.getD 0).toNat : Int) == 60) = false := by rw [beq_eq_false_iff_ne]; intro hh; exact h7 (UInt8.toNat_inj.1 (by show (s[0]?.getD 0).toNat = 60; omega))
 clear h1 h2 h3 h6 h7
 have hxt : (⟨s.toArray⟩ : ByteArray).extract 0 1 = ⟨(s.take 1).toArray⟩ := ba_ext (by rw [ext_eq]; simp)
 have htl : (s.take 1).length = 1 := by rw [List.length_take]; omega
 rw [show marks = [40, 41, 123, 125, 58, 44, 61, 124, 64, 126, 42, 43] from rfl] at HI ⊢
 generalize Lib.indexByte [40, 41, 123, 125, 58, 44, 61, 124, 64, 126, 42, 43] (s[0]?.getD 0) = ix at *
 generalize s[0]?.getD 0 = c at *
 generalize s.take 1 = t at *
 by_cases hix : 0 ≤ ix
 ·rw [if_pos hix]
  go_enter Tryz.func78, Tryz.ntmps78
  go_wp2_with fail
  refine (HL.out _).mono ?_
  rintro e w1 ⟨rfl, rfl⟩
  go_wp2_with fail
  refine (HD.out _).mono ?_
  rintro e w1 ⟨rfl, rfl⟩
  go_wp2_with fail
  refine (HI.out _).mono ?_
  rintro e w1 ⟨rfl, rfl⟩
  go_wp2_with fail
  refine bodyPost_ret (v := .tuple #[.agg #[.int .i64 5, .string ⟨t.toArray⟩, .string ⟨#[]⟩, .string ⟨#[]⟩, .slice Option.none 0 0, .int .i64 0, .int .i64 0], .int .i64 1, .int .i64 0]) (by simp [results, Tryz.results78, go_sem]) rfl ⟨⟨.slice Option.none 0 0, rfl, TRow.nil _ _ _ (by unfold maxLen; omega)⟩, ?_⟩
  exact (Below.refl _ _).alloc (Nat.le_refl _) _
 ·rw [if_neg hix]
  go_enter Tryz.func78, Tryz.ntmps78
  go_wp2_with fail
  refine (HL.out _).mono ?_
  rintro e w1 ⟨rfl, rfl⟩
  go_wp2_with fail
  refine (HD.out _).mono ?_
  rintro e w1 ⟨rfl, rfl⟩
  go_wp2_with fail
  refine (HI.out _).mono ?_
  rintro e w1 ⟨rfl, rfl⟩
  go_wp2_with fail
  refine bodyPost_ret (v := .tuple #[.agg #[.int .i64 0, .string ⟨#[]⟩, .string ⟨#[]⟩, .string ⟨#[]⟩, .slice Option.none 0 0, .int .i64 0, .int .i64 0], .int .i64 0, .int .i64 15]) (by simp [results, Tryz.results78, go_sem]) rfl ⟨rfl, ?_⟩
  exact (Below.refl _ _).alloc (Nat.le_refl _) _
set_option maxRecDepth 100000 in
set_option maxHeartbeats 4000000 in
theorem next_rest_b (s : List UInt8) (w : World) (hl : s.length ≤ 70000) (h0 : 0 < s.length) (h1 : letB (s[0]?.getD 0) = false) (h2 : digB (s[0]?.getD 0) = false) (h3 : s[0]?.getD 0 = 45) (h4 : ¬ 1 < s.length) (h6 : s[0]?.getD 0 ≠ 91) (h7 : s[0]?.getD 0 ≠ 60) :
  Calls Tryz.prog 78 #[.string ⟨s.toArray⟩] w fun e w' => NextPost w' (if 0 ≤ Lib.indexByte marks (s[0]?.getD 0) then .good 5 (s.take 1) [] [] [] 1 else .bad 15) e ∧ Below w.heap.size w w' := by
 have hx0 := ba_at s 0
 have HL := Lib.hid (fun W => letter_any (s[0]?.getD 0) W)
 rw [h1] at HL
 have HD := Lib.hid (fun W => digit_any (s[0]?.getD 0) W)
 rw [h2] at HD
 have HI := Lib.hid (fun W => indexByte_any marks (s[0]?.getD 0) W)
 have hq : (((s[0]?.getD 0).toNat : Int) == 45) = true := by rw [h3]; rfl
 have hq2 : (((s[0]?.getD 0).toNat : Int) == 91) = false := by rw [beq_eq_false_iff_ne]; intro hh; exact h6 (UInt8.toNat_inj.1 (by show (s[0]?.getD 0).toNat = 91; omega))
 have hq3 : (((s[0]?.getD 0).toNat : Int) == 60) = false := by rw [beq_eq_false_iff_ne]; intro hh; exact h7 (UInt8.toNat_inj.1 (by show (s[0]?.getD 0).toNat = 60; omega))
 clear h1 h2 h3 h6 h7
 have hxt : (⟨s.toArray⟩ : ByteArray).extract 0 1 = ⟨(s.take 1).toArray⟩ := ba_ext (by rw [ext_eq]; simp)
 have htl : (s.take 1).length = 1 := by rw [List.length_take]; omega
 rw [show marks = [40, 41, 123, 125, 58, 44, 61, 124, 64, 126, 42, 43] from rfl] at HI ⊢
 generalize Lib.indexByte [40, 41, 123, 125, 58, 44, 61, 124, 64, 126, 42, 43] (s[0]?.getD 0) = ix at *
 generalize s[0]?.getD 0 = c at *
 generalize s.take 1 = t at *
 by_cases hix : 0 ≤ ix
 ·rw [if_pos hix]
  go_enter Tryz.func78, Tryz.ntmps78
  go_wp2_with fail
  refine (HL.out _).mono ?_
  rintro e w1 ⟨rfl, rfl⟩
  go_wp2_with fail
  refine (HD.out _).mono ?_
  rintro e w1 ⟨rfl, rfl⟩
  go_wp2_with fail
  refine (HI.out _).mono ?_
  rintro e w1 ⟨rfl, rfl⟩
  go_wp2_with fail
  refine bodyPost_ret (v := .tuple #[.agg #[.int .i64 5, .string ⟨t.toArray⟩, .string ⟨#[]⟩, .string ⟨#[]⟩, .slice Option.none 0 0, .int .i64 0, .int .i64 0], .int .i64 1, .int .i64 0]) (by simp [results, Tryz.results78, go_sem]) rfl ⟨⟨.slice Option.none 0 0, rfl, TRow.nil _ _ _ (by unfold maxLen; omega)⟩, ?_⟩
  exact (Below.refl _ _).alloc (Nat.le_refl _) _
 ·rw [if_neg hix]
  go_enter Tryz.func78, Tryz.ntmps78
  go_wp2_with fail
  refine (HL.out _).mono ?_
  rintro e w1 ⟨rfl, rfl⟩
  go_wp2_with fail
  refine (HD.out _).mono ?_
  rintro e w1 ⟨rfl, rfl⟩
  go_wp2_with fail
  refine (HI.out _).mono ?_
  rintro e w1 ⟨rfl, rfl⟩
  go_wp2_with fail
  refine bodyPost_ret (v := .tuple #[.agg #[.int .i64 0, .string ⟨#[]⟩, .string ⟨#[]⟩, .string ⟨#[]⟩, .slice Option.none 0 0, .int .i64 0, .int .i64 0], .int .i64 0, .int .i64 15]) (by simp [results, Tryz.results78, go_sem]) rfl ⟨rfl, ?_⟩
  exact (Below.refl _ _).alloc (Nat.le_refl _) _
set_option maxRecDepth 100000 in
set_option maxHeartbeats 4000000 in
theorem next_rest_c (s : List UInt8) (w : World) (hl : s.length ≤ 70000) (h0 : 0 < s.length) (h1 : letB (s[0]?.getD 0) = false) (h2 : digB (s[0]?.getD 0) = false) (h3 : s[0]?.getD 0 = 45) (h4 : 1 < s.length) (h5 : digB (s[1]?.getD 0) = false) (h6 : s[0]?.getD 0 ≠ 91) (h7 : s[0]?.getD 0 ≠ 60) :
  Calls Tryz.prog 78 #[.string ⟨s.toArray⟩] w fun e w' => NextPost w' (if 0 ≤ Lib.indexByte marks (s[0]?.getD 0) then .good 5 (s.take 1) [] [] [] 1 else .bad 15) e ∧ Below w.heap.size w w' := by
 have hx0 := ba_at s 0
 have HL := Lib.hid (fun W => letter_any (s[0]?.getD 0) W)
 rw [h1] at HL
 have HD := Lib.hid (fun W => digit_any (s[0]?.getD 0) W)
 rw [h2] at HD
 have HI := Lib.hid (fun W => indexByte_any marks (s[0]?.getD 0) W)
 have hx1 := ba_at s 1
 have HD2 := Lib.hid (fun W => digit_any (s[1]?.getD 0) W)
 rw [h5] at HD2
 have hq : (((s[0]?.getD 0).toNat : Int) == 45) = true := by rw [h3]; rfl
 have hq2 : (((s[0]?.getD 0).toNat : Int) == 91) = false := by rw [beq_eq_false_iff_ne]; intro hh; exact h6 (UInt8.toNat_inj.1 (by show (s[0]?.getD 0).toNat = 91; omega))
 have hq3 : (((s[0]?.getD 0).toNat : Int) == 60) = false := by rw [beq_eq_false_iff_ne]; intro hh; exact h7 (UInt8.toNat_inj.1 (by show (s[0]?.getD 0).toNat = 60; omega))
 clear h1 h2 h3 h6 h7
 have hxt : (⟨s.toArray⟩ : ByteArray).extract 0 1 = ⟨(s.take 1).toArray⟩ := ba_ext (by rw [ext_eq]; simp)
 have htl : (s.take 1).length = 1 := by rw [List.length_take]; omega
 rw [show marks = [40, 41, 123, 125, 58, 44, 61, 124, 64, 126, 42, 43] from rfl] at HI ⊢
 generalize Lib.indexByte [40, 41, 123, 125, 58, 44, 61, 124, 64, 126, 42, 43] (s[0]?.getD 0) = ix at *
 generalize s[0]?.getD 0 = c at *
 clear h5
 generalize s[1]?.getD 0 = c1 at *
 generalize s.take 1 = t at *
 by_cases hix : 0 ≤ ix
 ·rw [if_pos hix]
  go_enter Tryz.func78, Tryz.ntmps78
  go_wp2_with fail
  refine (HL.out _).mono ?_
  rintro e w1 ⟨rfl, rfl⟩
  go_wp2_with fail
  refine (HD.out _).mono ?_
  rintro e w1 ⟨rfl, rfl⟩
  go_wp2_with fail
  refine (HD2.out _).mono ?_
  rintro e w1 ⟨rfl, rfl⟩
  go_wp2_with fail
  refine (HI.out _).mono ?_
  rintro e w1 ⟨rfl, rfl⟩
  go_wp2_with fail
  refine bodyPost_ret (v := .tuple #[.agg #[.int .i64 5, .string ⟨t.toArray⟩, .string ⟨#[]⟩, .string ⟨#[]⟩, .slice Option.none 0 0, .int .i64 0, .int .i64 0], .int .i64 1, .int .i64 0]) (by simp [results, Tryz.results78, go_sem]) rfl ⟨⟨.slice Option.none 0 0, rfl, TRow.nil _ _ _ (by unfold maxLen; omega)⟩, ?_⟩
  exact (Below.refl _ _).alloc (Nat.le_refl _) _
 ·rw [if_neg hix]
  go_enter Tryz.func78, Tryz.ntmps78
  go_wp2_with fail
  refine (HL.out _).mono ?_
  rintro e w1 ⟨rfl, rfl⟩
  go_wp2_with fail
  refine (HD.out _).mono ?_
  rintro e w1 ⟨rfl, rfl⟩
  go_wp2_with fail
  refine (HD2.out _).mono ?_
  rintro e w1 ⟨rfl, rfl⟩
  go_wp2_with fail
  refine (HI.out _).mono ?_
  rintro e w1 ⟨rfl, rfl⟩
  go_wp2_with fail
  refine bodyPost_ret (v := .tuple #[.agg #[.int .i64 0, .string ⟨#[]⟩, .string ⟨#[]⟩, .string ⟨#[]⟩, .slice Option.none 0 0, .int .i64 0, .int .i64 0], .int .i64 0, .int .i64 15]) (by simp [results, Tryz.results78, go_sem]) rfl ⟨rfl, ?_⟩
  exact (Below.refl _ _).alloc (Nat.le_refl _) _
theorem num_ascii (s : List UInt8) (h : (s[0]?.getD 0).toNat < 128) : ∀ x ∈ s.take (numLen s), x.toNat < 128 := by
 cases s with
 | nil => simp
 | cons c t =>
   have h' : c.toNat < 128 := h
   unfold numLen
   rw [List.drop_one, List.tail_cons, Nat.add_comm, List.take_succ_cons]
   intro x hx
   rcases List.mem_cons.1 hx with rfl | hx
   ·exact h'
   ·have key : ∀ (l : List UInt8), ∀ x ∈ l.take (runLen numB l), x.toNat < 128 := by
     intro l
     induction l with
     | nil => simp
     | cons a l ih =>
       rw [runLen]
       by_cases ha : numB a = true
       ·rw [if_pos ha, List.take_succ_cons]
        intro x hx
        rcases List.mem_cons.1 hx with rfl | hx
        ·unfold numB digB at ha
         simp only [Bool.or_eq_true, decide_eq_true_eq, beq_iff_eq] at ha
         rcases ha with (ha | rfl) | rfl
         ·omega
         ·decide
         ·decide
        ·exact ih x hx
       ·rw [if_neg ha]; simp
    exact key t x hx
theorem next_any (s : List UInt8) (w : World) (hS : Std w) (hL : LenIs w) (hl : s.length ≤ 70000) (h0 : 0 < s.length) :
  Calls Tryz.prog 78 #[.string ⟨s.toArray⟩] w fun e w' => NextPost w' (nextRead s) e ∧ Below w.heap.size w w' := by
 unfold nextRead
 cases h1 : letB (s[0]?.getD 0) with
 | true => rw [if_pos rfl]; exact next_word s w hl h0 h1
 | false =>
 rw [if_neg (by decide)]
 cases h2 : digB (s[0]?.getD 0) with
 | true =>
   rw [Bool.true_or, if_pos rfl]
   refine next_num s w hS hl h0 h1 h2 (num_ascii s ?_)
   have : 48 ≤ (s[0]?.getD 0).toNat ∧ (s[0]?.getD 0).toNat ≤ 57 := of_decide_eq_true h2
   omega
 | false =>
 rw [Bool.false_or]
 by_cases h3 : s[0]?.getD 0 = 45
 ·rw [show (s[0]?.getD 0 == 45) = true by rw [h3]; rfl, Bool.true_and]
  have hne1 : ¬ (s[0]?.getD 0 = 91 ∨ s[0]?.getD 0 = 60) := by rw [h3]; decide
  by_cases h4 : 1 < s.length
  ·rw [decide_eq_true h4, Bool.true_and]
   cases h5 : digB (s[1]?.getD 0) with
   | true => rw [if_pos rfl]; exact next_neg s w hS hl h0 h1 h2 h3 h4 h5 (num_ascii s (by rw [h3]; decide))
   | false => rw [if_neg (by decide), if_neg hne1]; exact next_rest_c s w hl h0 h1 h2 h3 h4 h5 (fun h => hne1 (.inl h)) (fun h => hne1 (.inr h))
  ·rw [decide_eq_false h4, Bool.false_and, if_neg (by decide), if_neg hne1]
   exact next_rest_b s w hl h0 h1 h2 h3 h4 (fun h => hne1 (.inl h)) (fun h => hne1 (.inr h))
 ·rw [show (s[0]?.getD 0 == 45) = false by simpa using h3, Bool.false_and, if_neg (by decide)]
  by_cases h6 : s[0]?.getD 0 = 91
  ·rw [if_pos (.inl h6)]; exact next_brack91 s w hS hL hl h0 h6
  ·by_cases h7 : s[0]?.getD 0 = 60
   ·rw [if_pos (.inr h7)]; exact next_brack60 s w hS hL hl h0 h7
   ·rw [if_neg (fun h => h.elim h6 h7)]
    exact next_rest_a s w hl h0 h1 h2 h3 h6 h7
theorem cutSemi_eq : ∀ (s : List UInt8), (Lib.cut s [59]).1 = cutSemi s := by
 intro s
 have key : (∀ c ∈ s, c ≠ 59) ∨ ∃ l r, s = l ++ 59 :: r ∧ ∀ c ∈ l, c ≠ 59 := by
  induction s with
  | nil => exact .inl (by simp)
  | cons a t ih =>
    by_cases ha : a = 59
    ·subst ha; exact .inr ⟨[], t, rfl, by simp⟩
    ·rcases ih with h | ⟨l, r, h, hl⟩
     ·exact .inl (fun c hc => by rcases List.mem_cons.1 hc with rfl | hc; exact ha; exact h c hc)
     ·exact .inr ⟨a :: l, r, by rw [h]; rfl, fun c hc => by rcases List.mem_cons.1 hc with rfl | hc; exact ha; exact hl c hc⟩
 unfold Lib.cut cutSemi
 rcases key with h | ⟨l, r, rfl, hl⟩
 ·rw [idx1_none 59 s h, if_neg (by omega)]
  symm
  show s.takeWhile _ = s
  induction s with
  | nil => rfl
  | cons a t ih =>
    rw [List.takeWhile_cons_of_pos (by simpa using h a (by simp)), ih (fun c hc => h c (by simp [hc]))]
 ·rw [idx1_at 59 l r hl, if_pos (by omega), Int.toNat_natCast]
  show (l ++ 59 :: r).take l.length = _
  rw [List.take_left' rfl]
  induction l with
  | nil => rfl
  | cons a t ih =>
    rw [List.cons_append, List.takeWhile_cons_of_pos (by simpa using hl a (by simp)), ← ih (fun c hc => hl c (by simp [hc]))]
theorem cutSemi_len (s : List UInt8) : (cutSemi s).length ≤ s.length := (List.takeWhile_prefix _).length_le
set_option maxRecDepth 100000 in
theorem content_any (s : List UInt8) (w : World) (hL : LenIs w) (hl : s.length ≤ 70000) :
  Calls Tryz.prog 77 #[.string ⟨s.toArray⟩] w fun e w' => e = .returned (.string ⟨(cutSemi s).toArray⟩) ∧ Below w.heap.size w w' := by
 obtain ⟨m, hm⟩ := hL
 have HC := Lib.hid (cut_any' s [59] m w (by omega) hm)
 rw [cutSemi_eq] at HC
 generalize cutSemi s = t at *
 generalize (Lib.cut s [59]).2.1 = u at *
 generalize (Lib.cut s [59]).2.2 = b at *
 clear hm
 go_enter Tryz.func77, Tryz.ntmps77
 go_wp2_with fail
 refine HC.out.mono ?_
 rintro e w1 ⟨rfl, hb1⟩
 go_wp2_with fail
 go_ret
 exact ⟨rfl, hb1⟩
theorem nextRead_len {s : List UInt8} {kd : Int} {t n d : List UInt8} {x : List Int} {m : Nat} (h : nextRead s = .good kd t n d x m) (h0 : 0 < s.length) : 1 ≤ m ∧ m ≤ s.length := by
 unfold nextRead at h
 split at h
 ·rename_i hc
  unfold wordRead at h
  split at h
  ·cases h
  ·injection h with _ _ _ _ _ h
   subst h
   refine ⟨?_, runLen_le _ _⟩
   cases s with
   | nil => simp at h0
   | cons c l =>
     have : partB c = true := by unfold partB; rw [show letB c = true from hc]; rfl
     rw [runLen, if_pos this]; omega
 ·split at h
  ·unfold numRead numTok at h
   split at h
   ·cases h
   ·injection h with _ _ _ _ _ h
    subst h
    unfold numLen
    have := runLen_le numB (s.drop 1)
    rw [List.length_drop] at this
    omega
  ·split at h
   ·unfold brackRead brackTok at h
    split at h
    ·cases h
    ·rename_i hn
     split at h
     ·cases h
     ·injection h with _ _ _ _ _ h
      subst h
      obtain ⟨h1, h2⟩ := indexByte_bd s (brackEnd s)
      have h3 : brackLen s ≤ s.length := by unfold brackLen; omega
      rw [List.length_take]
      omega
   ·split at h
    ·injection h with _ _ _ _ _ h
     subst h
     omega
    ·cases h
theorem nextRead_bad {s : List UInt8} {e : Int} (h : nextRead s = .bad e) : e ≠ 0 := by
 unfold nextRead at h
 split at h
 ·unfold wordRead at h
  split at h
  ·injection h with h; omega
  ·cases h
 ·split at h
  ·unfold numRead numTok at h
   split at h
   ·injection h with h; omega
   ·cases h
  ·split at h
   ·unfold brackRead brackTok at h
    split at h
    ·injection h with h; omega
    ·split at h
     ·rename_i he
      injection h with h
      subst h
      exact rowRead_bad he
     ·cases h
   ·split at h
    ·cases h
    ·injection h with h; omega
theorem cells_new (w : World) (cs : Array Value) (t : TypeId) : ∀ (j : Nat) u, cs.toList[j]? = some u → (w.alloc (.cells cs t)).cell? ((⟨w.heap.size, 0, Option.none⟩ : Addr).add j) = some u := by
 intro j u h
 rw [addr0, World.cell?_alloc_new]
 simpa using h
theorem Tryz.info_tok : (Tryz.prog.info? 92).map (fun i => (i.zero, i.size, i.bytes)) = some (some (.agg #[.int .i64 0, .string ⟨#[]⟩, .string ⟨#[]⟩, .string ⟨#[]⟩, .slice Option.none 0 0, .int .i64 0, .int .i64 0]), 7, 96) := by kernel_rfl
theorem lineRead_end {i : Nat} {ln : List UInt8} {g k : Nat} {acc : List Tok} (h : ¬ k < ln.length) : lineRead i ln g k acc = .good acc := by
 cases g with
 | zero => rfl
 | succ g => rw [lineRead, if_neg h]
theorem lineRead_blank {i : Nat} {ln : List UInt8} {g k : Nat} {acc : List Tok} (h : k < ln.length) (hb : blankB (ln[k]?.getD 0) = true) : lineRead i ln (g + 1) k acc = lineRead i ln g (k + 1) acc := by rw [lineRead, if_pos h, if_pos hb]
theorem lineRead_bad {i : Nat} {ln : List UInt8} {g k : Nat} {acc : List Tok} {e : Int} (h : k < ln.length) (hb : blankB (ln[k]?.getD 0) = false) (hn : nextRead (ln.drop k) = .bad e) : lineRead i ln (g + 1) k acc = .bad (k + 1) e := by rw [lineRead, if_pos h, hb, if_neg (by decide), hn]; rfl
theorem lineRead_full {i : Nat} {ln : List UInt8} {g k : Nat} {acc : List Tok} {kd : Int} {t n d : List UInt8} {x : List Int} {m : Nat} (h : k < ln.length) (hb : blankB (ln[k]?.getD 0) = false) (hn : nextRead (ln.drop k) = .good kd t n d x m) (hf : acc.length = 4000) : lineRead i ln (g + 1) k acc = .bad (k + 1) 4 := by
 rw [lineRead, if_pos h, hb, if_neg (by decide), hn]
 show (if acc.length = 4000 then Lrd.bad (k + 1) 4 else _) = _
 rw [if_pos hf]
theorem lineRead_more {i : Nat} {ln : List UInt8} {g k : Nat} {acc : List Tok} {kd : Int} {t n d : List UInt8} {x : List Int} {m : Nat} (h : k < ln.length) (hb : blankB (ln[k]?.getD 0) = false) (hn : nextRead (ln.drop k) = .good kd t n d x m) (hf : acc.length ≠ 4000) : lineRead i ln (g + 1) k acc = lineRead i ln g (k + m) (acc ++ [⟨kd, t, n, d, x, i + 1, k + 1⟩]) := by
 rw [lineRead, if_pos h, hb, if_neg (by decide), hn]
 show (if acc.length = 4000 then Lrd.bad (k + 1) 4 else _) = _
 rw [if_neg hf]
theorem linesRead_bad {i : Nat} {full : List UInt8} {rest : List (List UInt8)} {acc : List Tok} {c e : Int} (h : lineRead i (cutSemi full) (full.length + 1) 0 acc = .bad c e) : linesRead i (full :: rest) acc = .bad (i + 1) c e := by rw [linesRead, h]
theorem linesRead_same {i : Nat} {full : List UInt8} {rest : List (List UInt8)} {acc l : List Tok} (h : lineRead i (cutSemi full) (full.length + 1) 0 acc = .good l) (hl : l.length = acc.length) : linesRead i (full :: rest) acc = linesRead (i + 1) rest l := by rw [linesRead, h]; show (if l.length = acc.length then _ else _) = _; rw [if_pos hl]
theorem linesRead_full {i : Nat} {full : List UInt8} {rest : List (List UInt8)} {acc l : List Tok} (h : lineRead i (cutSemi full) (full.length + 1) 0 acc = .good l) (hl : l.length ≠ acc.length) (h4 : l.length = 4000) : linesRead i (full :: rest) acc = .bad (i + 1) (full.length + 1) 4 := by rw [linesRead, h]; show (if l.length = acc.length then _ else _) = _; rw [if_neg hl, if_pos h4]
theorem linesRead_more {i : Nat} {full : List UInt8} {rest : List (List UInt8)} {acc l : List Tok} (h : lineRead i (cutSemi full) (full.length + 1) 0 acc = .good l) (hl : l.length ≠ acc.length) (h4 : l.length ≠ 4000) : linesRead i (full :: rest) acc = linesRead (i + 1) rest (l ++ [endTok i full]) := by rw [linesRead, h]; show (if l.length = acc.length then _ else _) = _; rw [if_neg hl, if_neg h4]
theorem Toks.set {w : World} {base : Nat} {v : Value} {l : List Tok} (h : Toks w base v l) {g k : Nat} {T : TypeId} {xs : List Value} (hg : g < base) (hc : Cells w g T xs) (hT : T ≠ 3) (u : Value) : Toks (w.setCell ⟨g, k, Option.none⟩ u) base v l := by
 obtain ⟨rvs, h1, h2, h3⟩ := h
 refine ⟨rvs, h1, ⟨h2.1, ?_⟩, fun k t rv a b => (h3 k t rv a b).keep fun g' cur p hcur => Below.heap_setCell _ _ _ _ ?_⟩
 ·rcases h2.2 with hn | ⟨g', cap, cur, rfl, hb, hh, rest⟩
  ·exact .inl hn
  ·exact .inr ⟨g', cap, cur, rfl, hb, (Below.heap_setCell _ _ _ _ (by show g' ≠ g; omega)).trans hh, rest⟩
 ·intro e
  change g' = g at e
  subst e
  unfold Cells at hc
  rw [hc] at hcur
  injection hcur with hcur
  injection hcur with _ hcur _
  exact hT hcur
theorem drop_at {α : Type} {l : List α} {k : Nat} (h : k < l.length) (d : α) : l.drop k = (l[k]?.getD d) :: l.drop (k + 1) := by rw [List.getElem?_eq_getElem h, Option.getD_some, List.drop_eq_getElem_cons h]
end Go.Proofs.YtaaeekahhhookaaGreatDoor
