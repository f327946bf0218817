/- fraction.Parse of any text: what it reads, as a plain function, and the walk. fraction.Parse of any text: the walk. fraction.Parse of any text with a slash or a point: the walk. fraction.Parse of any text with a point: the walk. -/
import Derived.Test.YtjgpjhaeoiddbaaGreatDoorFAnyG
import Derived.Deep.RegionHeld3
import Derived.Laws.Runes
namespace Go.Proofs.YtjgpjhaeoiddbaaGreatDoor
open Go.RowKit Go.Lib

def okDig (l : List UInt8) : Bool := !l.isEmpty && l.all digB
def digS (l : List UInt8) : List UInt8 := if okDig l then decDigits (dval 0 l) else []
theorem digOut_eq (l : List UInt8) : digOut l = .tuple #[.string ⟨(digS l).toArray⟩, .bool (okDig l)] := by
  by_cases h : l ≠ [] ∧ l.all digB = true
  · have h2 : okDig l = true := by unfold okDig; rw [h.2]; cases l with | nil => exact absurd rfl h.1 | cons _ _ => rfl
    unfold digOut digS
    rw [if_pos h, h2, if_pos rfl]
  · have h2 : okDig l = false := by
      unfold okDig
      cases l with
      | nil => rfl
      | cons c t =>
        cases hd : (c :: t).all digB with
        | false => rfl
        | true => exact absurd ⟨by simp, hd⟩ h
    unfold digOut digS
    rw [if_neg h, h2, if_neg (by decide)]
theorem digs_any (l : List UInt8) (w : World) (hl : l.length ≤ 1000000) :
    Calls Tryz.prog 218 #[.string ⟨l.toArray⟩] w fun e w' => e = .returned (.tuple #[.string ⟨(digS l).toArray⟩, .bool (okDig l)]) ∧ Below w.heap.size w w' := digOut_eq l ▸ digits_any l w hl

theorem okDig_all {l : List UInt8} (h : okDig l = true) : l ≠ [] ∧ l.all digB = true := by
  unfold okDig at h
  rw [Bool.and_eq_true] at h
  refine ⟨fun e => ?_, h.2⟩
  subst e
  exact absurd h.1 (by decide)
theorem okDig_append {a b : List UInt8} (h1 : okDig a = true) (h2 : okDig b = true) : okDig (a ++ b) = true := by
  obtain ⟨x1, x2⟩ := okDig_all h1
  obtain ⟨_, y2⟩ := okDig_all h2
  unfold okDig
  rw [List.all_append, x2, y2]
  cases a with
  | nil => exact absurd rfl x1
  | cons _ _ => rfl
theorem dval_len {l : List UInt8} (h : okDig l = true) : (decDigits (dval 0 l)).length ≤ l.length := by
  obtain ⟨h0, h1⟩ := okDig_all h
  obtain ⟨z1, z2⟩ := trim_zeros l h1
  rcases Nat.eq_zero_or_pos (dval 0 l) with hz | hz
  · rw [hz, dec_small (by omega)]
    cases l with
    | nil => exact absurd rfl h0
    | cons _ _ => simp
  · rw [← z2 hz]
    exact (List.dropWhile_suffix _).length_le
theorem dec_pow10 : ∀ m : Nat, decDigits (10 ^ m) = 49 :: List.replicate m 48
  | 0 => by rw [Nat.pow_zero, dec_small (by omega)]; rfl
  | m + 1 => by
    have hp : 0 < 10 ^ m := Nat.pow_pos (by omega)
    rw [Nat.pow_succ, Nat.mul_comm, show 10 * 10 ^ m = 10 * 10 ^ m + 0 from rfl, dec_mul_add _ 0 hp (by omega), dec_pow10 m, List.replicate_succ']
    rfl

theorem repeat_zeros (n : Nat) (w : World) (hn : n ≤ 1000000) : Calls Tryz.prog 190 #[.string ⟨#[48]⟩, .int .i64 n] w fun e w' => e = .returned (.string ⟨(List.replicate n 48).toArray⟩) ∧ Below w.heap.size w w' := by
  have h := repeat_any [48] n w hn (by simp)
  have e : ∀ m : Nat, Lib.repeatL [48] m = List.replicate m 48 := by
    intro m
    induction m with
    | zero => rfl
    | succ m ih => rw [Lib.repeatL, ih, List.replicate_succ]; rfl
  rw [e n] at h
  exact h

/-- What is read: an error, or a numerator and a denominator. -/
inductive Frd where
  | bad (e : Int)
  | good (n d : Nat)
def fracRead (t : List UInt8) (k : Int) : Frd :=
  if k < 0 then (if okDig t then .good (dval 0 t) 1 else .bad 15)
  else if (t[k.toNat]?.getD 0) = 47 then
    (if okDig (t.take k.toNat) && okDig (t.drop (k.toNat + 1)) then (if dval 0 (t.drop (k.toNat + 1)) = 0 then .bad 17 else .good (dval 0 (t.take k.toNat)) (dval 0 (t.drop (k.toNat + 1)))) else .bad 15)
  else (if okDig (t.take k.toNat) && okDig (t.drop (k.toNat + 1)) then .good (dval 0 (t.take k.toNat ++ t.drop (k.toNat + 1))) (10 ^ (t.length - k.toNat - 1)) else .bad 15)
def sgnd (b : Bool) (n : Nat) : Int := if b then -(n : Int) else n
def frdOut (b : Bool) : Frd → Value
  | .bad e => .tuple #[.agg #[.string ⟨#[]⟩, .string ⟨#[]⟩], .int .i64 e]
  | .good n d => .tuple #[.agg #[.string ⟨(itoa (lowN (sgnd b n) d)).toArray⟩, .string ⟨(itoa (lowD (sgnd b n) d)).toArray⟩], .int .i64 0]
theorem frdOut_bad (b : Bool) (e : Int) : frdOut b (.bad e) = .tuple #[.agg #[.string ⟨#[]⟩, .string ⟨#[]⟩], .int .i64 e] := rfl
theorem frdOut_good (b : Bool) (n d : Nat) : frdOut b (.good n d) = .tuple #[.agg #[.string ⟨(itoa (lowN (sgnd b n) d)).toArray⟩, .string ⟨(itoa (lowD (sgnd b n) d)).toArray⟩], .int .i64 0] := rfl

/-- The end of every good reading: the sign, then lowest. -/
theorem low_read (b : Bool) (n d : Nat) (w : World) (hS : Std w) (hn : (decDigits n).length ≤ 40000) (hd : (decDigits d).length ≤ 40000) (hd0 : 0 < d) :
    Calls Tryz.prog 121 #[.string ⟨(itoa (sgnd b n)).toArray⟩, .string ⟨(decDigits d).toArray⟩] w fun e w' => e = .returned (.agg #[.string ⟨(itoa (lowN (sgnd b n) d)).toArray⟩, .string ⟨(itoa (lowD (sgnd b n) d)).toArray⟩]) ∧ Below w.heap.size w w' := by
  have h := lowest_any (sgnd b n) (d : Int) w hS (by
    have := itoa_len (sgnd b n)
    have e : (sgnd b n).natAbs = n := by unfold sgnd; split <;> omega
    rw [e] at this
    omega) (by rw [itoa_nat]; omega) (by omega)
  rw [itoa_nat] at h
  exact h

end Go.Proofs.YtjgpjhaeoiddbaaGreatDoor

namespace Go.Proofs.YtjgpjhaeoiddbaaGreatDoor
open Go.RowKit Go.Lib

/-- What the walk of fraction.Parse asks of the search for a sign. -/
def CutIs (s t : List UInt8) (b : Bool) : Prop := ∀ W, Calls Tryz.prog 216 #[.string ⟨s.toArray⟩, .string ⟨#[45]⟩] W fun e w' => e = .returned (.tuple #[.string ⟨t.toArray⟩, .bool b]) ∧ Below W.heap.size W w'
def IdxIs (t : List UInt8) (k : Int) : Prop := ∀ W, Calls Tryz.prog 217 #[.string ⟨t.toArray⟩, .string ⟨#[47, 46]⟩] W fun e w' => e = .returned (.int .i64 k) ∧ Below W.heap.size W w'

set_option maxRecDepth 100000 in
theorem fParse_long (s : List UInt8) (w : World) (hl : 400 < s.length) (hl2 : s.length ≤ 1000000) :
    Calls Tryz.prog 182 #[.string ⟨s.toArray⟩] w fun e w' => e = .returned (frdOut false (.bad 16)) ∧ Below w.heap.size w w' := by
  rw [frdOut_bad]
  go_enter Tryz.func182, Tryz.ntmps182
  go_wp2_with fail
  refine bodyPost_ret (v := .tuple #[.agg #[.string ⟨#[]⟩, .string ⟨#[]⟩], .int .i64 16]) (by simp [results, Tryz.results182, go_sem]) rfl ⟨rfl, ?_⟩
  exact (Below.refl _ _).alloc (Nat.le_refl _) _

set_option maxRecDepth 100000 in
set_option maxHeartbeats 2000000 in
theorem fParse_none (s t : List UInt8) (b : Bool) (w : World) (hS : Std w) (hl : s.length ≤ 400) (ht : t.length ≤ s.length) (hc : CutIs s t b) (hi : IdxIs t (-1)) :
    Calls Tryz.prog 182 #[.string ⟨s.toArray⟩] w fun e w' => e = .returned (frdOut b (if okDig t then .good (dval 0 t) 1 else .bad 15)) ∧ Below w.heap.size w w' := by
  have HC := Lib.hid hc
  have HI := Lib.hid hi
  have HD := Lib.hid (fun W => digs_any t W (by omega))
  have HS := Lib.hid hS
  have hli : (s.length : Int) ≤ 400 := by omega
  cases ho : okDig t with
  | false =>
    rw [ho] at HD
    rw [if_neg (by decide), frdOut_bad]
    clear hS hl ht hc hi ho
    generalize digS t = ds at *
    go_enter Tryz.func182, Tryz.ntmps182
    go_wp2_with fail
    refine (HC.out _).mono ?_
    rintro e w1 ⟨rfl, hb1⟩
    rw [World.size_alloc] at hb1
    go_wp2_with fail
    refine (HI.out _).mono ?_
    rintro e w2 ⟨rfl, hb2⟩
    replace hb1 := hb1.trans (hb2.mono (by have := hb1.size; simp at this; omega))
    clear hb2
    go_wp2_with fail
    refine (HD.out _).mono ?_
    rintro e w3 ⟨rfl, hb2⟩
    replace hb1 := hb1.trans (hb2.mono (by have := hb1.size; simp at this; omega))
    clear hb2
    obtain ⟨q0, q1, q2, q3, q4⟩ := two_below hb1
    have hbw2 := below_result hb1
    go_wp2_with fail
    refine bodyPost_ret (v := .tuple #[.agg #[.string ⟨#[]⟩, .string ⟨#[]⟩], .int .i64 15]) (by simp [results, Tryz.results182, go_sem, q0, q1]) rfl ⟨rfl, ?_⟩
    exact (hbw2.setCell (Nat.le_refl _) _).setCell (Nat.le_refl _) _
  | true =>
    have hdl := dval_len ho
    have HL := Lib.hid (fun W hW => low_read b (dval 0 t) 1 W hW (by omega) (by rw [dec_small (by omega)]; simp) (by omega))
    rw [dec_small (show 1 < 10 by omega), show UInt8.ofNat (48 + 1) = 49 from rfl] at HL
    have HN := Lib.hid (fun W => whNeg_any (dval 0 t : Nat) W (by rw [itoa_nat]; omega))
    rw [itoa_nat] at HN
    have hds : digS t = decDigits (dval 0 t) := by unfold digS; rw [ho, if_pos rfl]
    rw [ho, hds] at HD
    rw [if_pos rfl, frdOut_good]
    cases b with
    | false =>
      rw [show itoa (sgnd false (dval 0 t)) = decDigits (dval 0 t) by unfold sgnd; rw [if_neg (by decide), itoa_nat]] at HL
      clear hS hl ht hc hi ho hds hdl HN
      generalize itoa (lowN (sgnd false (dval 0 t)) (1 : Nat)) = la at *
      generalize itoa (lowD (sgnd false (dval 0 t)) (1 : Nat)) = lb at *
      generalize decDigits (dval 0 t) = ld at *
      go_enter Tryz.func182, Tryz.ntmps182
      go_wp2_with fail
      refine (HC.out _).mono ?_
      rintro e w1 ⟨rfl, hb1⟩
      rw [World.size_alloc] at hb1
      go_wp2_with fail
      refine (HI.out _).mono ?_
      rintro e w2 ⟨rfl, hb2⟩
      replace hb1 := hb1.trans (hb2.mono (by have := hb1.size; simp at this; omega))
      clear hb2
      go_wp2_with fail
      refine (HD.out _).mono ?_
      rintro e w3 ⟨rfl, hb2⟩
      replace hb1 := hb1.trans (hb2.mono (by have := hb1.size; simp at this; omega))
      clear hb2
      go_wp2_with fail
      have hs3 := HS.out.below (below_result hb1) (Nat.le_refl _)
      refine (HL.out _ hs3).mono ?_
      rintro e w4 ⟨rfl, hb3⟩
      replace hb1 := hb1.trans (hb3.mono (by have := hb1.size; simp at this; omega))
      clear hb3 hs3
      obtain ⟨q0, q1, q2, q3, q4⟩ := two_below hb1
      have hbw2 := below_result hb1
      go_wp2_with fail
      refine bodyPost_ret (v := .tuple #[.agg #[.string ⟨la.toArray⟩, .string ⟨lb.toArray⟩], .int .i64 0]) (by simp [results, Tryz.results182, go_sem, q0, q1]) rfl ⟨rfl, ?_⟩
      exact (hbw2.setCell (Nat.le_refl _) _).setCell (Nat.le_refl _) _
    | true =>
      rw [show sgnd true (dval 0 t) = -((dval 0 t : Nat) : Int) by unfold sgnd; rw [if_pos rfl]] at HL ⊢
      clear hS hl ht hc hi ho hds hdl
      generalize itoa (lowN (-((dval 0 t : Nat) : Int)) (1 : Nat)) = la at *
      generalize itoa (lowD (-((dval 0 t : Nat) : Int)) (1 : Nat)) = lb at *
      generalize decDigits (dval 0 t) = ld at *
      generalize itoa (-((dval 0 t : Nat) : Int)) = lm at *
      go_enter Tryz.func182, Tryz.ntmps182
      go_wp2_with fail
      refine (HC.out _).mono ?_
      rintro e w1 ⟨rfl, hb1⟩
      rw [World.size_alloc] at hb1
      go_wp2_with fail
      refine (HI.out _).mono ?_
      rintro e w2 ⟨rfl, hb2⟩
      replace hb1 := hb1.trans (hb2.mono (by have := hb1.size; simp at this; omega))
      clear hb2
      go_wp2_with fail
      refine (HD.out _).mono ?_
      rintro e w3 ⟨rfl, hb2⟩
      replace hb1 := hb1.trans (hb2.mono (by have := hb1.size; simp at this; omega))
      clear hb2
      go_wp2_with fail
      refine (HN.out _).mono ?_
      rintro e w3 ⟨rfl, hb2⟩
      replace hb1 := hb1.trans (hb2.mono (by have := hb1.size; simp at this; omega))
      clear hb2
      go_wp2_with fail
      have hs3 := HS.out.below (below_result hb1) (Nat.le_refl _)
      refine (HL.out _ hs3).mono ?_
      rintro e w4 ⟨rfl, hb3⟩
      replace hb1 := hb1.trans (hb3.mono (by have := hb1.size; simp at this; omega))
      clear hb3 hs3
      obtain ⟨q0, q1, q2, q3, q4⟩ := two_below hb1
      have hbw2 := below_result hb1
      go_wp2_with fail
      refine bodyPost_ret (v := .tuple #[.agg #[.string ⟨la.toArray⟩, .string ⟨lb.toArray⟩], .int .i64 0]) (by simp [results, Tryz.results182, go_sem, q0, q1]) rfl ⟨rfl, ?_⟩
      exact (hbw2.setCell (Nat.le_refl _) _).setCell (Nat.le_refl _) _

end Go.Proofs.YtjgpjhaeoiddbaaGreatDoor

namespace Go.Proofs.YtjgpjhaeoiddbaaGreatDoor
open Go.RowKit Go.Lib

set_option maxRecDepth 100000 in
set_option maxHeartbeats 4000000 in
theorem fParse_sl (s ta tb : List UInt8) (b : Bool) (w : World) (hS : Std w) (hl : s.length ≤ 400) (ht : (ta ++ 47 :: tb).length ≤ s.length) (hc : CutIs s (ta ++ 47 :: tb) b) (hi : IdxIs (ta ++ 47 :: tb) ta.length) :
    Calls Tryz.prog 182 #[.string ⟨s.toArray⟩] w fun e w' => e = .returned (frdOut b (if okDig ta && okDig tb then (if dval 0 tb = 0 then .bad 17 else .good (dval 0 ta) (dval 0 tb)) else .bad 15)) ∧ Below w.heap.size w w' := by
  have htl : (ta ++ 47 :: tb).length = ta.length + 1 + tb.length := by simp; omega
  have HC := Lib.hid hc
  have HI := Lib.hid hi
  have HD1 := Lib.hid (fun W => digs_any ta W (by omega))
  have HD2 := Lib.hid (fun W => digs_any tb W (by omega))
  have HS := Lib.hid hS
  have hli : (s.length : Int) ≤ 400 := by omega
  have hx1 : ∀ h, (⟨(ta ++ 47 :: tb).toArray⟩ : ByteArray)[ta.length]'h = 47 := by
    intro h
    rw [ba_at]
    simp
  have hx2 : (⟨(ta ++ 47 :: tb).toArray⟩ : ByteArray).extract 0 ta.length = ⟨ta.toArray⟩ := ba_ext (by rw [ext_eq]; simp)
  have hx3 : (⟨(ta ++ 47 :: tb).toArray⟩ : ByteArray).extract (ta.length + 1) (ta ++ 47 :: tb).length = ⟨tb.toArray⟩ := ba_ext (by rw [ext_eq, mk_toList, mk_toList, List.take_of_length_le (Nat.le_refl _), show ta ++ 47 :: tb = (ta ++ [47]) ++ tb by simp, List.drop_left' (by simp)])
  have hle : ta.length + 1 ≤ (ta ++ 47 :: tb).length := by omega
  have hln : (ta ++ 47 :: tb).length ≤ 400 := by omega
  have hdl1 : okDig ta = true → (decDigits (dval 0 ta)).length ≤ 400 := fun h => by have := dval_len h; omega
  have hdl2 : okDig tb = true → (decDigits (dval 0 tb)).length ≤ 400 := fun h => by have := dval_len h; omega
  clear hS hl ht hc hi htl
  generalize ta ++ 47 :: tb = t at *
  cases ho1 : okDig ta with
  | false =>
    rw [ho1] at HD1
    rw [Bool.false_and, if_neg (by decide), frdOut_bad]
    clear hdl1 hdl2 ho1
    generalize digS ta = d1 at *
    generalize digS tb = d2 at *
    generalize okDig tb = o2 at *
    go_enter Tryz.func182, Tryz.ntmps182
    go_wp2_with fail
    refine (HC.out _).mono ?_
    rintro e wk1 ⟨rfl, hb1⟩
    rw [World.size_alloc] at hb1
    go_wp2_with fail
    refine (HI.out _).mono ?_
    rintro e wk2 ⟨rfl, hbk⟩
    replace hb1 := hb1.trans (hbk.mono (by have := hb1.size; simp at this; omega))
    clear hbk
    go_wp2_with fail
    refine (HD1.out _).mono ?_
    rintro e wk3 ⟨rfl, hbk⟩
    replace hb1 := hb1.trans (hbk.mono (by have := hb1.size; simp at this; omega))
    clear hbk
    go_wp2_with fail
    refine (HD2.out _).mono ?_
    rintro e wk4 ⟨rfl, hbk⟩
    replace hb1 := hb1.trans (hbk.mono (by have := hb1.size; simp at this; omega))
    clear hbk
    obtain ⟨q0, q1, q2, q3, q4⟩ := two_below hb1
    have hbw2 := below_result hb1
    go_wp2_with fail
    refine bodyPost_ret (v := .tuple #[.agg #[.string ⟨#[]⟩, .string ⟨#[]⟩], .int .i64 15]) (by simp [results, Tryz.results182, go_sem, q0, q1]) rfl ⟨rfl, ?_⟩
    exact (hbw2.setCell (Nat.le_refl _) _).setCell (Nat.le_refl _) _
  | true =>
  have hds1 : digS ta = decDigits (dval 0 ta) := by unfold digS; rw [ho1, if_pos rfl]
  rw [ho1, hds1] at HD1
  cases ho2 : okDig tb with
  | false =>
    rw [ho2] at HD2
    rw [Bool.true_and, if_neg (by decide), frdOut_bad]
    clear hdl1 hdl2 ho1 ho2 hds1
    generalize decDigits (dval 0 ta) = d1 at *
    generalize digS tb = d2 at *
    go_enter Tryz.func182, Tryz.ntmps182
    go_wp2_with fail
    refine (HC.out _).mono ?_
    rintro e wk5 ⟨rfl, hb1⟩
    rw [World.size_alloc] at hb1
    go_wp2_with fail
    refine (HI.out _).mono ?_
    rintro e wk6 ⟨rfl, hbk⟩
    replace hb1 := hb1.trans (hbk.mono (by have := hb1.size; simp at this; omega))
    clear hbk
    go_wp2_with fail
    refine (HD1.out _).mono ?_
    rintro e wk7 ⟨rfl, hbk⟩
    replace hb1 := hb1.trans (hbk.mono (by have := hb1.size; simp at this; omega))
    clear hbk
    go_wp2_with fail
    refine (HD2.out _).mono ?_
    rintro e wk8 ⟨rfl, hbk⟩
    replace hb1 := hb1.trans (hbk.mono (by have := hb1.size; simp at this; omega))
    clear hbk
    obtain ⟨q0, q1, q2, q3, q4⟩ := two_below hb1
    have hbw2 := below_result hb1
    go_wp2_with fail
    refine bodyPost_ret (v := .tuple #[.agg #[.string ⟨#[]⟩, .string ⟨#[]⟩], .int .i64 15]) (by simp [results, Tryz.results182, go_sem, q0, q1]) rfl ⟨rfl, ?_⟩
    exact (hbw2.setCell (Nat.le_refl _) _).setCell (Nat.le_refl _) _
  | true =>
  have hds2 : digS tb = decDigits (dval 0 tb) := by unfold digS; rw [ho2, if_pos rfl]
  rw [ho2, hds2] at HD2
  replace hdl1 := hdl1 ho1
  replace hdl2 := hdl2 ho2
  have hz := dec_eq_zero (dval 0 tb)
  rw [Bool.true_and, if_pos rfl]
  by_cases h0 : dval 0 tb = 0
  · rw [if_pos h0, frdOut_bad]
    rw [decide_eq_true h0] at hz
    clear hdl1 hdl2 ho1 ho2 hds1 hds2 h0
    generalize decDigits (dval 0 ta) = d1 at *
    generalize decDigits (dval 0 tb) = d2 at *
    go_enter Tryz.func182, Tryz.ntmps182
    go_wp2_with fail
    refine (HC.out _).mono ?_
    rintro e wk9 ⟨rfl, hb1⟩
    rw [World.size_alloc] at hb1
    go_wp2_with fail
    refine (HI.out _).mono ?_
    rintro e wk10 ⟨rfl, hbk⟩
    replace hb1 := hb1.trans (hbk.mono (by have := hb1.size; simp at this; omega))
    clear hbk
    go_wp2_with fail
    refine (HD1.out _).mono ?_
    rintro e wk11 ⟨rfl, hbk⟩
    replace hb1 := hb1.trans (hbk.mono (by have := hb1.size; simp at this; omega))
    clear hbk
    go_wp2_with fail
    refine (HD2.out _).mono ?_
    rintro e wk12 ⟨rfl, hbk⟩
    replace hb1 := hb1.trans (hbk.mono (by have := hb1.size; simp at this; omega))
    clear hbk
    obtain ⟨q0, q1, q2, q3, q4⟩ := two_below hb1
    have hbw2 := below_result hb1
    go_wp2_with fail
    refine bodyPost_ret (v := .tuple #[.agg #[.string ⟨#[]⟩, .string ⟨#[]⟩], .int .i64 17]) (by simp [results, Tryz.results182, go_sem, q0, q1]) rfl ⟨rfl, ?_⟩
    exact (hbw2.setCell (Nat.le_refl _) _).setCell (Nat.le_refl _) _
  rw [if_neg h0, frdOut_good]
  rw [decide_eq_false h0] at hz
  have HL := Lib.hid (fun W hW => low_read b (dval 0 ta) (dval 0 tb) W hW (by omega) (by omega) (by omega))
  have HN := Lib.hid (fun W => whNeg_any (dval 0 ta : Nat) W (by rw [itoa_nat]; omega))
  rw [itoa_nat] at HN
  cases b with
  | false =>
    rw [show itoa (sgnd false (dval 0 ta)) = decDigits (dval 0 ta) by unfold sgnd; rw [if_neg (by decide), itoa_nat]] at HL
    clear hdl1 hdl2 ho1 ho2 hds1 hds2 h0 HN
    generalize itoa (lowN (sgnd false (dval 0 ta)) (dval 0 tb : Nat)) = la at *
    generalize itoa (lowD (sgnd false (dval 0 ta)) (dval 0 tb : Nat)) = lb at *
    generalize decDigits (dval 0 ta) = d1 at *
    generalize decDigits (dval 0 tb) = d2 at *
    go_enter Tryz.func182, Tryz.ntmps182
    go_wp2_with fail
    refine (HC.out _).mono ?_
    rintro e wk13 ⟨rfl, hb1⟩
    rw [World.size_alloc] at hb1
    go_wp2_with fail
    refine (HI.out _).mono ?_
    rintro e wk14 ⟨rfl, hbk⟩
    replace hb1 := hb1.trans (hbk.mono (by have := hb1.size; simp at this; omega))
    clear hbk
    go_wp2_with fail
    refine (HD1.out _).mono ?_
    rintro e wk15 ⟨rfl, hbk⟩
    replace hb1 := hb1.trans (hbk.mono (by have := hb1.size; simp at this; omega))
    clear hbk
    go_wp2_with fail
    refine (HD2.out _).mono ?_
    rintro e wk16 ⟨rfl, hbk⟩
    replace hb1 := hb1.trans (hbk.mono (by have := hb1.size; simp at this; omega))
    clear hbk
    go_wp2_with fail
    refine (HL.out _ (HS.out.below (below_result hb1) (Nat.le_refl _))).mono ?_
    rintro e wk17 ⟨rfl, hbk⟩
    replace hb1 := hb1.trans (hbk.mono (by have := hb1.size; simp at this; omega))
    clear hbk
    obtain ⟨q0, q1, q2, q3, q4⟩ := two_below hb1
    have hbw2 := below_result hb1
    go_wp2_with fail
    refine bodyPost_ret (v := .tuple #[.agg #[.string ⟨la.toArray⟩, .string ⟨lb.toArray⟩], .int .i64 0]) (by simp [results, Tryz.results182, go_sem, q0, q1]) rfl ⟨rfl, ?_⟩
    exact (hbw2.setCell (Nat.le_refl _) _).setCell (Nat.le_refl _) _
  | true =>
    rw [show sgnd true (dval 0 ta) = -((dval 0 ta : Nat) : Int) by unfold sgnd; rw [if_pos rfl]] at HL ⊢
    clear hdl1 hdl2 ho1 ho2 hds1 hds2 h0
    generalize itoa (lowN (-((dval 0 ta : Nat) : Int)) (dval 0 tb : Nat)) = la at *
    generalize itoa (lowD (-((dval 0 ta : Nat) : Int)) (dval 0 tb : Nat)) = lb at *
    generalize decDigits (dval 0 ta) = d1 at *
    generalize decDigits (dval 0 tb) = d2 at *
    generalize itoa (-((dval 0 ta : Nat) : Int)) = lm at *
    go_enter Tryz.func182, Tryz.ntmps182
    go_wp2_with fail
    refine (HC.out _).mono ?_
    rintro e wk18 ⟨rfl, hb1⟩
    rw [World.size_alloc] at hb1
    go_wp2_with fail
    refine (HI.out _).mono ?_
    rintro e wk19 ⟨rfl, hbk⟩
    replace hb1 := hb1.trans (hbk.mono (by have := hb1.size; simp at this; omega))
    clear hbk
    go_wp2_with fail
    refine (HD1.out _).mono ?_
    rintro e wk20 ⟨rfl, hbk⟩
    replace hb1 := hb1.trans (hbk.mono (by have := hb1.size; simp at this; omega))
    clear hbk
    go_wp2_with fail
    refine (HD2.out _).mono ?_
    rintro e wk21 ⟨rfl, hbk⟩
    replace hb1 := hb1.trans (hbk.mono (by have := hb1.size; simp at this; omega))
    clear hbk
    go_wp2_with fail
    refine (HN.out _).mono ?_
    rintro e wk22 ⟨rfl, hbk⟩
    replace hb1 := hb1.trans (hbk.mono (by have := hb1.size; simp at this; omega))
    clear hbk
    go_wp2_with fail
    refine (HL.out _ (HS.out.below (below_result hb1) (Nat.le_refl _))).mono ?_
    rintro e wk23 ⟨rfl, hbk⟩
    replace hb1 := hb1.trans (hbk.mono (by have := hb1.size; simp at this; omega))
    clear hbk
    obtain ⟨q0, q1, q2, q3, q4⟩ := two_below hb1
    have hbw2 := below_result hb1
    go_wp2_with fail
    refine bodyPost_ret (v := .tuple #[.agg #[.string ⟨la.toArray⟩, .string ⟨lb.toArray⟩], .int .i64 0]) (by simp [results, Tryz.results182, go_sem, q0, q1]) rfl ⟨rfl, ?_⟩
    exact (hbw2.setCell (Nat.le_refl _) _).setCell (Nat.le_refl _) _

end Go.Proofs.YtjgpjhaeoiddbaaGreatDoor

namespace Go.Proofs.YtjgpjhaeoiddbaaGreatDoor
open Go.RowKit Go.Lib

set_option maxRecDepth 100000 in
set_option maxHeartbeats 4000000 in
theorem fParse_pt (s ta tb : List UInt8) (b : Bool) (w : World) (hS : Std w) (hl : s.length ≤ 400) (ht : (ta ++ 46 :: tb).length ≤ s.length) (hc : CutIs s (ta ++ 46 :: tb) b) (hi : IdxIs (ta ++ 46 :: tb) ta.length) :
    Calls Tryz.prog 182 #[.string ⟨s.toArray⟩] w fun e w' => e = .returned (frdOut b (if okDig ta && okDig tb then .good (dval 0 (ta ++ tb)) (10 ^ tb.length) else .bad 15)) ∧ Below w.heap.size w w' := by
  have htl : (ta ++ 46 :: tb).length = ta.length + 1 + tb.length := by simp; omega
  have HC := Lib.hid hc
  have HI := Lib.hid hi
  have HD1 := Lib.hid (fun W => digs_any ta W (by omega))
  have HD2 := Lib.hid (fun W => digs_any tb W (by omega))
  have HD3 := Lib.hid (fun W => digs_any (ta ++ tb) W (by simp; omega))
  have HR := Lib.hid (fun W => repeat_zeros tb.length W (by omega))
  have HS := Lib.hid hS
  have hli : (s.length : Int) ≤ 400 := by omega
  have hx1 : ∀ h, (⟨(ta ++ 46 :: tb).toArray⟩ : ByteArray)[ta.length]'h = 46 := by
    intro h
    rw [ba_at]
    simp
  have hx2 : (⟨(ta ++ 46 :: tb).toArray⟩ : ByteArray).extract 0 ta.length = ⟨ta.toArray⟩ := ba_ext (by rw [ext_eq]; simp)
  have hx3 : (⟨(ta ++ 46 :: tb).toArray⟩ : ByteArray).extract (ta.length + 1) (ta ++ 46 :: tb).length = ⟨tb.toArray⟩ := ba_ext (by rw [ext_eq, mk_toList, mk_toList, List.take_of_length_le (Nat.le_refl _), show ta ++ 46 :: tb = (ta ++ [46]) ++ tb by simp, List.drop_left' (by simp)])
  have hx4 := ba_append ta tb
  have hx5 := ba_append [49] (List.replicate tb.length 48)
  rw [List.singleton_append, ← dec_pow10] at hx5
  have hsb : ((ta ++ 46 :: tb).length : Int) - (ta.length : Int) - 1 = (tb.length : Int) := by omega
  have hle : ta.length + 1 ≤ (ta ++ 46 :: tb).length := by omega
  have hln : (ta ++ 46 :: tb).length ≤ 400 := by omega
  have hdl3 : okDig (ta ++ tb) = true → (decDigits (dval 0 (ta ++ tb))).length ≤ 400 := fun h => by have := dval_len h; simp at this; omega
  have hdl4 : (decDigits (10 ^ tb.length)).length ≤ 401 := by rw [dec_pow10]; simp; omega
  have hz := dec_eq_zero (10 ^ tb.length)
  have hp0 : 0 < 10 ^ tb.length := Nat.pow_pos (by omega)
  rw [decide_eq_false (by omega)] at hz
  have hk0 : (0 : Int) ≤ (ta.length : Int) := by omega
  have hk1 : (ta.length : Int) ≤ ((ta ++ 46 :: tb).length : Int) := by omega
  have hk2 : (ta.length : Int) + 1 ≤ ((ta ++ 46 :: tb).length : Int) := by omega
  have hk3 : IntKind.i64.wrap ((ta.length : Int) + 1) = (ta.length : Int) + 1 := wrap_small _ (by omega) (by omega)
  have hk4 : ((ta.length : Int) + 1).toNat = ta.length + 1 := by omega
  have hk5 : (0 : Int) ≤ (ta.length : Int) + 1 := by omega
  have hk6 : ¬ (9223372036854775807 < ta.length + tb.length) := by omega
  have hlz : (List.replicate tb.length (48 : UInt8)).length ≤ 400 := by simp; omega
  clear hS hl ht hc hi htl
  generalize ta ++ 46 :: tb = t at *
  generalize hm10 : 10 ^ tb.length = q10 at *
  clear hm10
  cases ho1 : okDig ta with
  | false =>
    rw [ho1] at HD1
    rw [Bool.false_and, if_neg (by decide), frdOut_bad]
    clear hdl3 hdl4 hp0 ho1
    generalize digS ta = d1 at *
    generalize digS tb = d2 at *
    generalize digS (ta ++ tb) = d3 at *
    generalize okDig tb = o2 at *
    generalize okDig (ta ++ tb) = o3 at *
    generalize decDigits q10 = d4 at *
    generalize ta ++ tb = tc at *
    generalize List.replicate tb.length (48 : UInt8) = tz at *
    go_enter Tryz.func182, Tryz.ntmps182
    go_wp2_with fail
    refine (HC.out _).mono ?_
    rintro e wk1 ⟨rfl, hb1⟩
    rw [World.size_alloc] at hb1
    go_wp2_with fail
    refine (HI.out _).mono ?_
    rintro e wk2 ⟨rfl, hbk⟩
    replace hb1 := hb1.trans (hbk.mono (by have := hb1.size; simp at this; omega))
    clear hbk
    go_wp2_with fail
    refine (HD1.out _).mono ?_
    rintro e wk3 ⟨rfl, hbk⟩
    replace hb1 := hb1.trans (hbk.mono (by have := hb1.size; simp at this; omega))
    clear hbk
    go_wp2_with fail
    refine (HD2.out _).mono ?_
    rintro e wk4 ⟨rfl, hbk⟩
    replace hb1 := hb1.trans (hbk.mono (by have := hb1.size; simp at this; omega))
    clear hbk
    go_wp2_with fail
    go_region_held3 (fun w' => True) (first | trivial) ((first | (go_at_call 218; (with_reducible refine (HD3.out _).mono ?_); rintro e wd3 ⟨rfl, hbk⟩)))
    replace hbk := below_of_drew hbk
    replace hb1 := hb1.trans (hbk.mono (by have := hb1.size; simp at this; omega))
    clear hbk
    go_wp2_with fail
    refine (HR.out _).mono ?_
    rintro e wk5 ⟨rfl, hbk⟩
    replace hb1 := hb1.trans (hbk.mono (by have := hb1.size; simp at this; omega))
    clear hbk
    obtain ⟨q0, q1, q2, q3, q4⟩ := two_below hb1
    have hbw2 := below_result hb1
    go_wp2_with fail
    refine bodyPost_ret (v := .tuple #[.agg #[.string ⟨#[]⟩, .string ⟨#[]⟩], .int .i64 15]) (by simp [results, Tryz.results182, go_sem, q0, q1]) rfl ⟨rfl, ?_⟩
    exact (hbw2.setCell (Nat.le_refl _) _).setCell (Nat.le_refl _) _
  | true =>
  rw [ho1] at HD1
  cases ho2 : okDig tb with
  | false =>
    rw [ho2] at HD2
    rw [Bool.true_and, if_neg (by decide), frdOut_bad]
    clear hdl3 hdl4 hp0 ho1 ho2
    generalize digS ta = d1 at *
    generalize digS tb = d2 at *
    generalize digS (ta ++ tb) = d3 at *
    generalize okDig (ta ++ tb) = o3 at *
    generalize decDigits q10 = d4 at *
    generalize ta ++ tb = tc at *
    generalize List.replicate tb.length (48 : UInt8) = tz at *
    go_enter Tryz.func182, Tryz.ntmps182
    go_wp2_with fail
    refine (HC.out _).mono ?_
    rintro e wk6 ⟨rfl, hb1⟩
    rw [World.size_alloc] at hb1
    go_wp2_with fail
    refine (HI.out _).mono ?_
    rintro e wk7 ⟨rfl, hbk⟩
    replace hb1 := hb1.trans (hbk.mono (by have := hb1.size; simp at this; omega))
    clear hbk
    go_wp2_with fail
    refine (HD1.out _).mono ?_
    rintro e wk8 ⟨rfl, hbk⟩
    replace hb1 := hb1.trans (hbk.mono (by have := hb1.size; simp at this; omega))
    clear hbk
    go_wp2_with fail
    refine (HD2.out _).mono ?_
    rintro e wk9 ⟨rfl, hbk⟩
    replace hb1 := hb1.trans (hbk.mono (by have := hb1.size; simp at this; omega))
    clear hbk
    go_wp2_with fail
    go_region_held3 (fun w' => True) (first | trivial) ((first | (go_at_call 218; (with_reducible refine (HD3.out _).mono ?_); rintro e wd3 ⟨rfl, hbk⟩)))
    replace hbk := below_of_drew hbk
    replace hb1 := hb1.trans (hbk.mono (by have := hb1.size; simp at this; omega))
    clear hbk
    go_wp2_with fail
    refine (HR.out _).mono ?_
    rintro e wk10 ⟨rfl, hbk⟩
    replace hb1 := hb1.trans (hbk.mono (by have := hb1.size; simp at this; omega))
    clear hbk
    obtain ⟨q0, q1, q2, q3, q4⟩ := two_below hb1
    have hbw2 := below_result hb1
    go_wp2_with fail
    refine bodyPost_ret (v := .tuple #[.agg #[.string ⟨#[]⟩, .string ⟨#[]⟩], .int .i64 15]) (by simp [results, Tryz.results182, go_sem, q0, q1]) rfl ⟨rfl, ?_⟩
    exact (hbw2.setCell (Nat.le_refl _) _).setCell (Nat.le_refl _) _
  | true =>
  rw [ho2] at HD2
  have ho3 := okDig_append ho1 ho2
  have hds3 : digS (ta ++ tb) = decDigits (dval 0 (ta ++ tb)) := by unfold digS; rw [ho3, if_pos rfl]
  rw [ho3, hds3] at HD3
  replace hdl3 := hdl3 ho3
  rw [Bool.true_and, if_pos rfl, frdOut_good]
  have HL := Lib.hid (fun W hW => low_read b (dval 0 (ta ++ tb)) q10 W hW (by omega) (by omega) (by omega))
  have HN := Lib.hid (fun W => whNeg_any (dval 0 (ta ++ tb) : Nat) W (by rw [itoa_nat]; omega))
  rw [itoa_nat] at HN
  cases b with
  | false =>
    rw [show itoa (sgnd false (dval 0 (ta ++ tb))) = decDigits (dval 0 (ta ++ tb)) by unfold sgnd; rw [if_neg (by decide), itoa_nat]] at HL
    clear hdl3 hdl4 hp0 ho1 ho2 ho3 hds3 HN
    generalize itoa (lowN (sgnd false (dval 0 (ta ++ tb))) (q10 : Nat)) = la at *
    generalize itoa (lowD (sgnd false (dval 0 (ta ++ tb))) (q10 : Nat)) = lb at *
    generalize decDigits (dval 0 (ta ++ tb)) = d3 at *
    generalize digS ta = d1 at *
    generalize digS tb = d2 at *
    generalize decDigits q10 = d4 at *
    generalize ta ++ tb = tc at *
    generalize List.replicate tb.length (48 : UInt8) = tz at *
    go_enter Tryz.func182, Tryz.ntmps182
    go_wp2_with fail
    refine (HC.out _).mono ?_
    rintro e wk11 ⟨rfl, hb1⟩
    rw [World.size_alloc] at hb1
    go_wp2_with fail
    refine (HI.out _).mono ?_
    rintro e wk12 ⟨rfl, hbk⟩
    replace hb1 := hb1.trans (hbk.mono (by have := hb1.size; simp at this; omega))
    clear hbk
    go_wp2_with fail
    refine (HD1.out _).mono ?_
    rintro e wk13 ⟨rfl, hbk⟩
    replace hb1 := hb1.trans (hbk.mono (by have := hb1.size; simp at this; omega))
    clear hbk
    go_wp2_with fail
    refine (HD2.out _).mono ?_
    rintro e wk14 ⟨rfl, hbk⟩
    replace hb1 := hb1.trans (hbk.mono (by have := hb1.size; simp at this; omega))
    clear hbk
    go_wp2_with fail
    go_region_held3 (fun w' => True) (first | trivial) ((first | (go_at_call 218; (with_reducible refine (HD3.out _).mono ?_); rintro e wd3 ⟨rfl, hbk⟩)))
    replace hbk := below_of_drew hbk
    replace hb1 := hb1.trans (hbk.mono (by have := hb1.size; simp at this; omega))
    clear hbk
    go_wp2_with fail
    refine (HR.out _).mono ?_
    rintro e wk15 ⟨rfl, hbk⟩
    replace hb1 := hb1.trans (hbk.mono (by have := hb1.size; simp at this; omega))
    clear hbk
    go_wp2_with fail
    refine (HL.out _ (HS.out.below (below_result hb1) (Nat.le_refl _))).mono ?_
    rintro e wk16 ⟨rfl, hbk⟩
    replace hb1 := hb1.trans (hbk.mono (by have := hb1.size; simp at this; omega))
    clear hbk
    obtain ⟨q0, q1, q2, q3, q4⟩ := two_below hb1
    have hbw2 := below_result hb1
    go_wp2_with fail
    refine bodyPost_ret (v := .tuple #[.agg #[.string ⟨la.toArray⟩, .string ⟨lb.toArray⟩], .int .i64 0]) (by simp [results, Tryz.results182, go_sem, q0, q1]) rfl ⟨rfl, ?_⟩
    exact (hbw2.setCell (Nat.le_refl _) _).setCell (Nat.le_refl _) _
  | true =>
    rw [show sgnd true (dval 0 (ta ++ tb)) = -((dval 0 (ta ++ tb) : Nat) : Int) by unfold sgnd; rw [if_pos rfl]] at HL ⊢
    clear hdl3 hdl4 hp0 ho1 ho2 ho3 hds3
    generalize itoa (lowN (-((dval 0 (ta ++ tb) : Nat) : Int)) (q10 : Nat)) = la at *
    generalize itoa (lowD (-((dval 0 (ta ++ tb) : Nat) : Int)) (q10 : Nat)) = lb at *
    generalize decDigits (dval 0 (ta ++ tb)) = d3 at *
    generalize itoa (-((dval 0 (ta ++ tb) : Nat) : Int)) = lm at *
    generalize digS ta = d1 at *
    generalize digS tb = d2 at *
    generalize decDigits q10 = d4 at *
    generalize ta ++ tb = tc at *
    generalize List.replicate tb.length (48 : UInt8) = tz at *
    go_enter Tryz.func182, Tryz.ntmps182
    go_wp2_with fail
    refine (HC.out _).mono ?_
    rintro e wk17 ⟨rfl, hb1⟩
    rw [World.size_alloc] at hb1
    go_wp2_with fail
    refine (HI.out _).mono ?_
    rintro e wk18 ⟨rfl, hbk⟩
    replace hb1 := hb1.trans (hbk.mono (by have := hb1.size; simp at this; omega))
    clear hbk
    go_wp2_with fail
    refine (HD1.out _).mono ?_
    rintro e wk19 ⟨rfl, hbk⟩
    replace hb1 := hb1.trans (hbk.mono (by have := hb1.size; simp at this; omega))
    clear hbk
    go_wp2_with fail
    refine (HD2.out _).mono ?_
    rintro e wk20 ⟨rfl, hbk⟩
    replace hb1 := hb1.trans (hbk.mono (by have := hb1.size; simp at this; omega))
    clear hbk
    go_wp2_with fail
    go_region_held3 (fun w' => True) (first | trivial) ((first | (go_at_call 218; (with_reducible refine (HD3.out _).mono ?_); rintro e wd3 ⟨rfl, hbk⟩)))
    replace hbk := below_of_drew hbk
    replace hb1 := hb1.trans (hbk.mono (by have := hb1.size; simp at this; omega))
    clear hbk
    go_wp2_with fail
    refine (HR.out _).mono ?_
    rintro e wk21 ⟨rfl, hbk⟩
    replace hb1 := hb1.trans (hbk.mono (by have := hb1.size; simp at this; omega))
    clear hbk
    go_wp2_with fail
    refine (HN.out _).mono ?_
    rintro e wk22 ⟨rfl, hbk⟩
    replace hb1 := hb1.trans (hbk.mono (by have := hb1.size; simp at this; omega))
    clear hbk
    go_wp2_with fail
    refine (HL.out _ (HS.out.below (below_result hb1) (Nat.le_refl _))).mono ?_
    rintro e wk23 ⟨rfl, hbk⟩
    replace hb1 := hb1.trans (hbk.mono (by have := hb1.size; simp at this; omega))
    clear hbk
    obtain ⟨q0, q1, q2, q3, q4⟩ := two_below hb1
    have hbw2 := below_result hb1
    go_wp2_with fail
    refine bodyPost_ret (v := .tuple #[.agg #[.string ⟨la.toArray⟩, .string ⟨lb.toArray⟩], .int .i64 0]) (by simp [results, Tryz.results182, go_sem, q0, q1]) rfl ⟨rfl, ?_⟩
    exact (hbw2.setCell (Nat.le_refl _) _).setCell (Nat.le_refl _) _

end Go.Proofs.YtjgpjhaeoiddbaaGreatDoor
