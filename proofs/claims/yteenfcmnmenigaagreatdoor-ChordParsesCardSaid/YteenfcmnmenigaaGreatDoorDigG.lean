/- fraction.digits and fraction.lowest. -/
import Derived.Test.YteenfcmnmenigaaGreatDoorSayG
import Derived.Test.YteenfcmnmenigaaGreatDoorGYa
import Derived.Test.YteenfcmnmenigaaGreatDoorGF
import Derived.Test.YteenfcmnmenigaaGreatDoorGE
namespace Go.Proofs.YteenfcmnmenigaaGreatDoor
open Go.RowKit Go.Lib

theorem trim_zeros : ∀ (l : List UInt8), l.all digB = true → (dval 0 l = 0 → Lib.trimLeftB l 48 = []) ∧ (0 < dval 0 l → Lib.trimLeftB l 48 = decDigits (dval 0 l))
  | [], _ => ⟨fun _ => rfl, fun h => absurd h (by rw [dval_nil]; omega)⟩
  | c :: t, h => by
    have hc : digB c = true := by have := List.all_eq_true.1 h c (by simp); exact this
    have ht : t.all digB = true := List.all_eq_true.2 fun x hx => List.all_eq_true.1 h x (by simp [hx])
    obtain ⟨i1, i2⟩ := trim_zeros t ht
    have hcd : 48 ≤ c.toNat ∧ c.toNat ≤ 57 := of_decide_eq_true hc
    by_cases h48 : c = 48
    · subst h48
      have e : dval 0 (48 :: t) = dval 0 t := by rw [dval_cons, dgv_eq]; rfl
      rw [e, show Lib.trimLeftB (48 :: t) 48 = Lib.trimLeftB t 48 by unfold Lib.trimLeftB; rw [List.dropWhile_cons_of_pos (by decide)]]
      exact ⟨i1, i2⟩
    · have e : Lib.trimLeftB (c :: t) 48 = c :: t := by unfold Lib.trimLeftB; rw [List.dropWhile_cons_of_neg (by simpa using h48)]
      have hne : c.toNat ≠ 48 := fun hh => h48 (UInt8.toNat_inj.1 hh)
      have hcb : canonB (c :: t) = true := by
        refine canon_good h ?_
        cases t with
        | nil => exact .inl rfl
        | cons _ _ => exact .inr ⟨by simp, hne⟩
      obtain ⟨n, hn⟩ := (canonB_iff _).1 hcb
      have hv : dval 0 (c :: t) = n := by rw [hn, dval_dec]
      have hn0 : 0 < n := by
        rcases Nat.eq_zero_or_pos n with h0 | h0
        · subst h0
          rw [dec_small (by omega)] at hn
          injection hn with hn _
          exact absurd (by rw [hn]; rfl) hne
        · exact h0
      rw [e, hv]
      exact ⟨fun h => by omega, fun _ => hn⟩

def digOut (l : List UInt8) : Value := if l ≠ [] ∧ l.all digB = true then .tuple #[.string ⟨(decDigits (dval 0 l)).toArray⟩, .bool true] else .tuple #[.string ⟨#[]⟩, .bool false]

set_option maxRecDepth 100000 in
set_option maxHeartbeats 1000000 in
theorem lowest_one (n d : Int) (w : World) (hS : Std w) (hn : (itoa n).length ≤ 50000) (hd : (itoa d).length ≤ 50000) (hd0 : 0 < d) (hg : Nat.gcd n.natAbs d.natAbs = 1) :
    Calls Tryz.prog 113 #[.string ⟨(itoa n).toArray⟩, .string ⟨(itoa d).toArray⟩] w fun e w' => e = .returned (.agg #[.string ⟨(itoa n).toArray⟩, .string ⟨(itoa d).toArray⟩]) ∧ Below w.heap.size w w' := by
  have hsg : sgn d = 1 := by unfold sgn; rw [if_neg (by omega), if_neg (by omega)]
  have HSG := Lib.hid (fun W => whSign_any d W (by omega))
  rw [hsg] at HSG
  have HG := Lib.hid (fun W hW => whGcd_any n d W hW (by omega) (by omega))
  rw [hg, dec_small (by omega)] at HG
  have HS := Lib.hid hS
  clear hsg hg hS hn hd hd0
  generalize itoa n = a at *
  generalize itoa d = b at *
  go_enter Tryz.func113, Tryz.ntmps113
  go_wp2_with fail
  refine (HSG.out _).mono ?_
  rintro e w1 ⟨rfl, rfl⟩
  go_wp2_with fail
  have hs2 := HS.out.alloc (.cells #[.string ⟨#[]⟩, .string ⟨#[]⟩] 72)
  refine (HG.out _ hs2).mono ?_
  rintro e w2 ⟨rfl, hb2⟩
  rw [World.size_alloc] at hb2
  obtain ⟨q0, q1, q2, q3, q4⟩ := two_below hb2
  have hbw2 := below_result hb2
  go_wp2_with fail
  refine bodyPost_ret (v := .agg #[.string ⟨a.toArray⟩, .string ⟨b.toArray⟩]) (by simp [results, Tryz.results113, go_sem, q0, q1]) rfl ⟨rfl, ?_⟩
  exact (hbw2.setCell (Nat.le_refl _) _).setCell (Nat.le_refl _) _

set_option maxRecDepth 100000 in
set_option maxHeartbeats 1000000 in
theorem lowest_more (n d : Int) (w : World) (hS : Std w) (hn : (itoa n).length ≤ 50000) (hd : (itoa d).length ≤ 50000) (hd0 : 0 < d) (hg : Nat.gcd n.natAbs d.natAbs ≠ 1) :
    Calls Tryz.prog 113 #[.string ⟨(itoa n).toArray⟩, .string ⟨(itoa d).toArray⟩] w fun e w' => e = .returned (.agg #[.string ⟨(itoa (n / (Nat.gcd n.natAbs d.natAbs : Nat))).toArray⟩, .string ⟨(itoa (d / (Nat.gcd n.natAbs d.natAbs : Nat))).toArray⟩]) ∧ Below w.heap.size w w' := by
  have hsg : sgn d = 1 := by unfold sgn; rw [if_neg (by omega), if_neg (by omega)]
  have HSG := Lib.hid (fun W => whSign_any d W (by omega))
  rw [hsg] at HSG
  have HG := Lib.hid (fun W hW => whGcd_any n d W hW (by omega) (by omega))
  have hg1 := dec_eq_one (Nat.gcd n.natAbs d.natAbs)
  rw [decide_eq_false hg] at hg1
  have hg2 : (decDigits (Nat.gcd n.natAbs d.natAbs) != [49]) = true := by simp only [bne, hg1]; rfl
  have hgp : 0 < Nat.gcd n.natAbs d.natAbs := Nat.gcd_pos_of_pos_right _ (by omega)
  have hgl : (decDigits (Nat.gcd n.natAbs d.natAbs)).length ≤ 50000 := by
    have h1 := dec_le_len (Nat.le_of_dvd (show 0 < d.natAbs by omega) (Nat.gcd_dvd_right n.natAbs d.natAbs))
    have h2 : decDigits d.natAbs = itoa d := by rw [← itoa_nat]; congr 1; omega
    rw [h2] at h1
    omega
  have HQ1 := Lib.hid (fun W hW => whDivMod_any n (Nat.gcd n.natAbs d.natAbs) W hW hn hgl hgp)
  have HQ2 := Lib.hid (fun W hW => whDivMod_any d (Nat.gcd n.natAbs d.natAbs) W hW hd hgl hgp)
  have HS := Lib.hid hS
  clear hsg hg hS hn hd hd0 hgl hgp
  generalize itoa (n / (Nat.gcd n.natAbs d.natAbs : Nat)) = qa at *
  generalize itoa (d / (Nat.gcd n.natAbs d.natAbs : Nat)) = qb at *
  generalize itoa (n % (Nat.gcd n.natAbs d.natAbs : Nat)) = ra at *
  generalize itoa (d % (Nat.gcd n.natAbs d.natAbs : Nat)) = rb at *
  generalize decDigits (Nat.gcd n.natAbs d.natAbs) = lg at *
  generalize itoa n = a at *
  generalize itoa d = b at *
  go_enter Tryz.func113, Tryz.ntmps113
  go_wp2_with fail
  refine (HSG.out _).mono ?_
  rintro e w1 ⟨rfl, rfl⟩
  go_wp2_with fail
  have hs2 := HS.out.alloc (.cells #[.string ⟨#[]⟩, .string ⟨#[]⟩] 72)
  refine (HG.out _ hs2).mono ?_
  rintro e w2 ⟨rfl, hb2⟩
  rw [World.size_alloc] at hb2
  go_wp2_with fail
  have hs3 := HS.out.below (below_result hb2) (Nat.le_refl _)
  refine (HQ1.out _ hs3).mono ?_
  rintro e w3 ⟨rfl, hb3⟩
  replace hb2 := hb2.trans (hb3.mono (by have := hb2.size; simp at this; omega))
  clear hb3 hs3
  go_wp2_with fail
  have hs3 := HS.out.below (below_result hb2) (Nat.le_refl _)
  refine (HQ2.out _ hs3).mono ?_
  rintro e w4 ⟨rfl, hb3⟩
  replace hb2 := hb2.trans (hb3.mono (by have := hb2.size; simp at this; omega))
  clear hb3 hs3
  obtain ⟨q0, q1, q2, q3, q4⟩ := two_below hb2
  have hbw2 := below_result hb2
  go_wp2_with fail
  refine bodyPost_ret (v := .agg #[.string ⟨qa.toArray⟩, .string ⟨qb.toArray⟩]) (by simp [results, Tryz.results113, go_sem, q0, q1]) rfl ⟨rfl, ?_⟩
  exact (hbw2.setCell (Nat.le_refl _) _).setCell (Nat.le_refl _) _

end Go.Proofs.YteenfcmnmenigaaGreatDoor
