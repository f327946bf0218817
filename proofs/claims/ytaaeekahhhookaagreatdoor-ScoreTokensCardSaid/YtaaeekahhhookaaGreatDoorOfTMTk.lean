/- MonzoReads: monzo.Parse of any text, and the walk. monzo.Of of a ratio: its row lies in a block of ints. -/
import Derived.Test.YtaaeekahhhookaaGreatDoorGXPMTk
import Derived.Test.YtaaeekahhhookaaGreatDoorGIMTk
import Derived.Laws.RangeAny
import Derived.Laws.Runes
import Derived.WalkMore
import Derived.Deep.RegionHeld3
import Derived.Shelf.Strings.IndexAnyAll
import Derived.Test.YtaaeekahhhookaaGreatDoorGXQTk
import Derived.Test.YtaaeekahhhookaaGreatDoorGGMTk
import Derived.Test.YtaaeekahhhookaaGreatDoorGXAMTk
namespace Go.Proofs.YtaaeekahhhookaaGreatDoor
open Go.RowKit Go.Lib

/-- What monzo.Of and monzo.Parse return: an error, or a row. -/
inductive ORes where
 | err (e : Int)
 | row (x : List Int)
def OPost (w' : World) : ORes → Ending → Prop
 | .err er, e => e = .returned (.tuple #[.slice Option.none 0 0, .int .i64 er])
 | .row x, e => ∃ A c, e = .returned (.tuple #[.slice A x.length c, .int .i64 0]) ∧ IsRow w' w'.heap.size (.slice A x.length c) x
def ofRes (p : List Int) (n d : Int) : ORes :=
 if n ≤ 0 then .err 3
 else if leftTo p n.natAbs p.length = 1 ∧ leftTo p d.natAbs p.length = 1 then .row (expsTo p n.natAbs d.natAbs p.length) else .err 25

theorem expsTo_long (p : List Int) (n d : Nat) (hn : (decDigits n).length ≤ 60) (hd : (decDigits d).length ≤ 60) (n0 : 0 < n) (d0 : 0 < d) : ∀ k, ∀ v ∈ expsTo p n d k, -1000 ≤ v ∧ v ≤ 1000
 | 0, v, hv => by simp [expsTo] at hv
 | k + 1, v, hv => by
   rw [expsTo] at hv
   rcases List.mem_append.1 hv with hv | hv
   ·exact expsTo_long p n d hn hd n0 d0 k v hv
   ·rw [List.mem_singleton] at hv
    have h1 := dec_le_len (leftTo_le p n n0 k).1
    have h2 := dec_le_len (leftTo_le p d d0 k).1
    have h3 := mult_le_len (p[k]?.getD 0).toNat (leftTo p n k)
    have h4 := mult_le_len (p[k]?.getD 0).toNat (leftTo p d k)
    omega

theorem of_read (pv : Value) (p : List Int) (n d : Int) (w : World) (hS : Std w) (hpv : IsRow w w.heap.size pv p) (hp : primeErr p = 0) (hn : (decDigits n.natAbs).length ≤ 60) (hd : (decDigits d.natAbs).length ≤ 60) (hd0 : 0 < d) (hg : Nat.gcd n.natAbs d.natAbs = 1) :
 Calls Tryz.prog 87 #[pv, .agg #[.string ⟨(itoa n).toArray⟩, .string ⟨(itoa d).toArray⟩]] w fun e w' => OPost w' (ofRes p n d) e ∧ Below w.heap.size w w' := by
 unfold ofRes
 by_cases h0 : n ≤ 0
 ·rw [if_pos h0]
  exact of_neg pv p n d w hS hpv hp (by omega) (by omega) hd0 hg h0
 ·rw [if_neg h0]
  have e1 : itoa n = decDigits n.natAbs := by rcases itoa_cases n with ⟨h, _⟩ | ⟨_, h⟩; omega; exact h
  have e2 : itoa d = decDigits d.natAbs := by rcases itoa_cases d with ⟨h, _⟩ | ⟨_, h⟩; omega; exact h
  rw [e1, e2]
  refine (of_long pv p n.natAbs d.natAbs w hS hpv hp (by omega) (by omega) (by omega) (by omega) hg (chk_small hp (expsTo_len p _ _ _) (expsTo_long p _ _ hn hd (by omega) (by omega) _))).mono fun e w' ⟨ho, hb⟩ => ⟨?_, hb⟩
  by_cases hL : leftTo p n.natAbs p.length = 1 ∧ leftTo p d.natAbs p.length = 1
  ·rw [if_pos hL]; exact of_good hL ho
  ·rw [if_neg hL]; exact of_none hL ho

theorem fracRead_short {t : List UInt8} {k : Int} {n d : Nat} {m : Nat} (h : fracRead t k = .good n d) (hl : t.length ≤ m) (hm : 1 ≤ m) : 0 < d ∧ (decDigits n).length ≤ m ∧ (decDigits d).length ≤ m + 1 := by
 have h1 : (decDigits 1).length = 1 := by rw [dec_small (by omega)]; rfl
 unfold fracRead at h
 split at h
 ·split at h
  ·rename_i ho
   injection h with h2 h3
   subst h2 h3
   have := dval_len ho
   exact ⟨by omega, by omega, by omega⟩
  ·cases h
 ·split at h
  ·split at h
   ·rename_i ho
    rw [Bool.and_eq_true] at ho
    have e1 := dval_len ho.1
    have e2 := dval_len ho.2
    have e3 : (t.take k.toNat).length ≤ m := by rw [List.length_take]; omega
    have e4 : (t.drop (k.toNat + 1)).length ≤ m := by rw [List.length_drop]; omega
    split at h
    ·cases h
    ·injection h with h2 h3
     subst h2 h3
     exact ⟨by omega, by omega, by omega⟩
   ·cases h
  ·split at h
   ·rename_i ho
    rw [Bool.and_eq_true] at ho
    injection h with h2 h3
    subst h2 h3
    have e1 := dval_len (okDig_append ho.1 ho.2)
    have e3 : (t.take k.toNat ++ t.drop (k.toNat + 1)).length ≤ m := by rw [List.length_append, List.length_take, List.length_drop]; omega
    have e4 : (decDigits (10 ^ (t.length - k.toNat - 1))).length = t.length - k.toNat - 1 + 1 := by rw [dec_pow10]; simp
    exact ⟨Nat.pow_pos (by omega), by omega, by omega⟩
   ·cases h
theorem fracOf_short {s : List UInt8} {n d : Nat} (hl : s.length ≤ 40) (h : fracOf s = .good n d) : 0 < d ∧ (decDigits n).length ≤ 40 ∧ (decDigits d).length ≤ 41 := by
 unfold fracOf at h
 rw [if_neg (by omega)] at h
 exact fracRead_short h (Nat.le_trans (trimPre_len s [45]) hl) (by omega)
end Go.Proofs.YtaaeekahhhookaaGreatDoor

namespace Go.Proofs.YtaaeekahhhookaaGreatDoor
open Go.RowKit Go.Lib

def OfPostT (p : List Int) (n d : Nat) (e : Ending) (w' : World) : Prop :=
 (leftTo p n p.length = 1 ∧ leftTo p d p.length = 1 ∧ ∃ v, e = .returned (.tuple #[v, .int .i64 0]) ∧ TRow w' v (expsTo p n d p.length)) ∨
 (¬ (leftTo p n p.length = 1 ∧ leftTo p d p.length = 1) ∧ e = .returned (.tuple #[.slice Option.none 0 0, .int .i64 25]))

set_option maxRecDepth 100000 in
set_option maxHeartbeats 2000000 in
theorem of_longT (pv : Value) (p : List Int) (n d : Nat) (w : World) (hS : Std w) (hpv : IsRow w w.heap.size pv p) (hp : primeErr p = 0) (hn : (decDigits n).length ≤ 400) (hd : (decDigits d).length ≤ 400) (hn0 : 0 < n) (hd0 : 0 < d) (hg : Nat.gcd n d = 1) (hchk : chkAll p [expsTo p n d p.length] = 0) :
 Calls Tryz.prog 87 #[pv, .agg #[.string ⟨(decDigits n).toArray⟩, .string ⟨(decDigits d).toArray⟩]] w fun e w' => OfPostT p n d e w' ∧ Below w.heap.size w w' := by
 obtain ⟨i0, hi0, hz0, hz1, hz2⟩ := info_parts Tryz.info_int
 obtain ⟨hp6, hp1, hpr⟩ := right_primes hp
 have HCH : Box (chkAll p [expsTo p n d p.length] = 0) := ⟨hchk⟩
 have HPC := Lib.hid (fun W h => primeCheck_any pv p W.heap.size W h)
 rw [hp] at HPC
 have hsg : sgn (n : Int) = 1 := by unfold sgn; rw [if_neg (by omega), if_neg (by omega)]
 have hln : (itoa (n : Int)).length ≤ 100000 := by rw [itoa_nat]; omega
 have HSG := Lib.hid (fun W => fracSign_any (n : Int) (decDigits d) W hln)
 rw [hsg, itoa_nat] at HSG
 have HFC := Lib.hid (fun W hW => fracCheck_long (n : Int) (d : Int) W hW (by simpa using hn) (by simpa using hd) (by omega) (by simpa using hg))
 rw [itoa_nat, itoa_nat] at HFC
 have HN : Box ((decDigits n).length ≤ 400 ∧ 0 < n) := ⟨hn, hn0⟩
 have HD : Box ((decDigits d).length ≤ 400 ∧ 0 < d) := ⟨hd, hd0⟩
 have HS := Lib.hid hS
 have HPV := Lib.hid hpv
 have HPR : Box (∀ k, k < p.length → 2 ≤ p[k]?.getD 0 ∧ p[k]?.getD 0 ≤ 97) := ⟨hpr⟩
 obtain ⟨AP, cp, rfl, _⟩ := hpv
 clear hchk hsg hln hn hd hn0 hd0 hS hp hg hpr
 generalize hla : decDigits n = la at *
 generalize hlb : decDigits d = lb at *
 have HLA : Box (decDigits n = la) := ⟨hla⟩
 have HLB : Box (decDigits d = lb) := ⟨hlb⟩
 clear hla hlb
 go_enter Tryz.func87, Tryz.ntmps87
 go_wp2_with fail
 refine (HPC.out _ ((HPV.out.alloc (Nat.le_refl _) _).up (by simp))).mono ?_
 rintro e w1 ⟨rfl, hw1⟩
 have hb1 : Below (w.heap.size + 1) (w.alloc (.cells #[.string ⟨la.toArray⟩, .string ⟨lb.toArray⟩] 51)) w1 := by rw [hw1]; exact Below.refl _ _
 clear hw1
 obtain ⟨q0, q1⟩ := rat_cells hb1
 go_wp2_with fail
 have hs1 := HS.out.below (below_result hb1) (Nat.le_refl _)
 refine (HFC.out _ hs1).mono ?_
 rintro e w2 ⟨rfl, hb2⟩
 have hb12 := hb1.trans (hb2.mono (by have := hb1.size; simp at this; omega))
 clear q0 q1
 obtain ⟨q0, q1⟩ := rat_cells hb12
 go_wp2_with fail
 refine (HSG.out _).mono ?_
 rintro e w3 ⟨rfl, hb3⟩
 have hb13 := hb12.trans (hb3.mono (by have := hb12.size; simp at this; omega))
 clear q0 q1
 obtain ⟨q0, q1⟩ := rat_cells hb13
 have hbw3 := below_result hb13
 clear hb1 hb2 hb12 hb3 hs1 hb13
 go_wp2_with fail
 go_quiet (fail)
 have hbw4 := below_drewN hbw3 nq
 clear hbw3 q0 q1
 go_wp2_with fail
 go_loopw [7, 8, 9, 33] (fun a b o i wr => ∃ k : Nat, k ≤ p.length ∧ i = .int .i64 k ∧ a = .string ⟨(decDigits (leftTo p n k)).toArray⟩ ∧ b = .string ⟨(decDigits (leftTo p d k)).toArray⟩ ∧ wr.ownsRow w.heap.size 3 1 o k (is (expsTo p n d k)) ∧ Below w.heap.size w wr) (fun _ _ _ i _ => p.length - (intOf i).toNat)
 case atStart => exact ⟨0, Nat.zero_le _, rfl, by rw [leftTo, HLA.out], by rw [leftTo, HLB.out], World.ownsRow_nil _ _ _ _, hbw4⟩
 case round =>
  clear hbw4
  obtain ⟨k, hk, rfl, rfl, rfl, hown, hbw⟩ := hrel
  have HO := Lib.hid hown
  clear hown
  by_cases hlt : k < p.length
  ·obtain ⟨A', c', e', _, _, hr⟩ := HPV.out
   injection e' with e1 _ e3
   subst e1 e3
   obtain ⟨ad, rfl, _, hca⟩ := (hr.below hbw (Nat.le_refl _)).i_at hlt
   clear hr
   have hpk := HPR.out k hlt
   have hl1 := leftTo_le p n HN.out.2 k
   have hl2 := leftTo_le p d HD.out.2 k
   have e1 : leftTo p n (k + 1) = left (p[k]?.getD 0).toNat (leftTo p n k) := rfl
   have e2 : leftTo p d (k + 1) = left (p[k]?.getD 0).toNat (leftTo p d k) := rfl
   have e3 : expsTo p n d (k + 1) = expsTo p n d k ++ [(mult (p[k]?.getD 0).toNat (leftTo p n k) : Int) - (mult (p[k]?.getD 0).toNat (leftTo p d k) : Int)] := rfl
   generalize p[k]?.getD 0 = q0 at *
   obtain ⟨q, rfl⟩ : ∃ q : Nat, q0 = (q : Int) := ⟨q0.toNat, by omega⟩
   rw [Int.toNat_natCast] at e1 e2 e3
   have hdn : (decDigits (leftTo p n k)).length ≤ 400 := Nat.le_trans (dec_le_len hl1.1) (by rw [HLA.out]; exact HN.out.1)
   have hdd : (decDigits (leftTo p d k)).length ≤ 400 := Nat.le_trans (dec_le_len hl2.1) (by rw [HLB.out]; exact HD.out.1)
   have hm1 := mult_le_len q (leftTo p n k)
   have hm2 := mult_le_len q (leftTo p d k)
   have HE1 := Lib.hid (fun W hW => exponentL_any (leftTo p n k) q W hW (by omega) hl1.2 (by omega) (by omega))
   have HE2 := Lib.hid (fun W hW => exponentL_any (leftTo p d k) q W hW (by omega) hl2.2 (by omega) (by omega))
   have hsr := HS.out.below hbw (Nat.le_refl _)
   have HSR := Lib.hid hsr
   have E1 := Lib.hid e1
   have E2 := Lib.hid e2
   have E3 := Lib.hid e3
   have hmm1 : mult q (leftTo p n k) ≤ 1600 := by omega
   have hmm2 : mult q (leftTo p d k) ≤ 1600 := by omega
   clear e1 e2 e3 hl1 hl2 hdn hdd hsr hm1 hm2
   generalize mult q (leftTo p n k) = m1 at *
   generalize mult q (leftTo p d k) = m2 at *
   go_wp2_with fail
   refine (HE1.out _ HSR.out).mono ?_
   rintro e w1 ⟨rfl, hb1⟩
   go_wp2_with fail
   refine (HE2.out _ (HSR.out.below hb1 (Nat.le_refl _))).mono ?_
   rintro e w2 ⟨rfl, hb2⟩
   have h12 := hb1.trans (hb2.mono hb1.size)
   have hown2 := own_below HO.out h12
   go_wp2_with (at_builtin; refine wpList_append_own _ rfl _ _ _ rfl w.heap.size 3 i0 (.int .i64 0) 1 8 Tryz.underlying40 hi0 hz0 hz1 hz2 rfl (by decide) _ _ _ rfl (hown2.alloc _) ⟨w2.heap.size, 0, Option.none⟩ 1 1 [_] rfl rfl (cell_one_new _ _ _) (by intro u hu; simp at hu; subst hu; rfl) (by unfold maxLen; omega) (by omega) (by have := hbw.size; have := h12.size; simp; omega) ?_; intro v3 w3 hown3 hg3 _)
   go_wp2
   go_roundw
   case rel =>
    refine ⟨k + 1, by omega, by go_num, by rw [E1.out], by rw [E2.out], ?_, ?_⟩
    ·rw [E3.out, is_append]; exact hown3
    ·exact ((hbw.trans (h12.mono hbw.size)).alloc (by have := hbw.size; have := h12.size; omega) _).grown hg3 (by have := hbw.size; have := h12.size; simp; omega) (fun k hk => (HO.out.lt k hk).1)
   case measure => simp [intOf]; omega
  ·obtain rfl : k = p.length := by omega
   have h1 := dec_eq_one (leftTo p n p.length)
   have h2 := dec_eq_one (leftTo p d p.length)
   by_cases hn1 : leftTo p n p.length = 1
   ·rw [decide_eq_true hn1] at h1
    have h1' : (decDigits (leftTo p n p.length) != [49]) = false := by simp only [bne, h1]; rfl
    by_cases hd1 : leftTo p d p.length = 1
    ·rw [decide_eq_true hd1] at h2
     have h2' : (decDigits (leftTo p d p.length) != [49]) = false := by simp only [bne, h2]; rfl
     have HH : Box (leftTo p n p.length = 1 ∧ leftTo p d p.length = 1) := ⟨hn1, hd1⟩
     have hex : wr.ownsRow w.heap.size 3 1 u9 (expsTo p n d p.length).length (is (expsTo p n d p.length)) := by rw [expsTo_len]; exact HO.out
     have hri := IsRow.of_own hex
     have HR := Lib.hid (result_yes _ _ p _ wr (HPV.out.lift hbw) hri HCH.out)
     have HRI := Lib.hid hex
     clear hn1 hd1 hex hri
     go_wp2_with fail
     refine HR.out.mono ?_
     rintro e w1 ⟨rfl, hb1⟩
     go_wp2_with fail
     go_ret2
     exact ⟨.inl ⟨HH.out.1, HH.out.2, _, rfl, TRow.of_own (own_below HRI.out hb1)⟩, hbw.trans (hb1.mono hbw.size)⟩
    ·rw [decide_eq_false hd1] at h2
     have h2' : (decDigits (leftTo p d p.length) != [49]) = true := by simp only [bne, h2]; rfl
     have HH : Box (¬ (leftTo p n p.length = 1 ∧ leftTo p d p.length = 1)) := ⟨fun h => hd1 h.2⟩
     clear hn1 hd1
     go_wp2_with fail
     go_ret2
     exact ⟨.inr ⟨HH.out, rfl⟩, hbw⟩
   ·rw [decide_eq_false hn1] at h1
    have h1' : (decDigits (leftTo p n p.length) != [49]) = true := by simp only [bne, h1]; rfl
    have HH : Box (¬ (leftTo p n p.length = 1 ∧ leftTo p d p.length = 1)) := ⟨fun h => hn1 h.1⟩
    clear hn1 h2
    go_wp2_with fail
    go_ret2
    exact ⟨.inr ⟨HH.out, rfl⟩, hbw⟩

def OPostT (w' : World) : ORes → Ending → Prop
 | .err er, e => e = .returned (.tuple #[.slice Option.none 0 0, .int .i64 er])
 | .row x, e => ∃ v, e = .returned (.tuple #[v, .int .i64 0]) ∧ IRow w' w'.heap.size v x
theorem of_readT (pv : Value) (p : List Int) (n d : Int) (w : World) (hS : Std w) (hpv : IsRow w w.heap.size pv p) (hp : primeErr p = 0) (hn : (decDigits n.natAbs).length ≤ 60) (hd : (decDigits d.natAbs).length ≤ 60) (hd0 : 0 < d) (hg : Nat.gcd n.natAbs d.natAbs = 1) :
 Calls Tryz.prog 87 #[pv, .agg #[.string ⟨(itoa n).toArray⟩, .string ⟨(itoa d).toArray⟩]] w fun e w' => OPostT w' (ofRes p n d) e ∧ Below w.heap.size w w' := by
 unfold ofRes
 by_cases h0 : n ≤ 0
 ·rw [if_pos h0]
  exact of_neg pv p n d w hS hpv hp (by omega) (by omega) hd0 hg h0
 ·rw [if_neg h0]
  have e1 : itoa n = decDigits n.natAbs := by rcases itoa_cases n with ⟨h, _⟩ | ⟨_, h⟩; omega; exact h
  have e2 : itoa d = decDigits d.natAbs := by rcases itoa_cases d with ⟨h, _⟩ | ⟨_, h⟩; omega; exact h
  rw [e1, e2]
  refine (of_longT pv p n.natAbs d.natAbs w hS hpv hp (by omega) (by omega) (by omega) (by omega) hg (chk_small hp (expsTo_len p _ _ _) (expsTo_long p _ _ hn hd (by omega) (by omega) _))).mono fun e w' ⟨ho, hb⟩ => ⟨?_, hb⟩
  by_cases hL : leftTo p n.natAbs p.length = 1 ∧ leftTo p d.natAbs p.length = 1
  ·rw [if_pos hL]
   rcases ho with ⟨_, _, v, rfl, hr⟩ | ⟨hn, _⟩
   ·exact ⟨v, rfl, IRow.of_trow hr⟩
   ·exact absurd hL hn
  ·rw [if_neg hL]
   rcases ho with ⟨h1, h2, _⟩ | ⟨_, rfl⟩
   ·exact absurd ⟨h1, h2⟩ hL
   ·rfl

end Go.Proofs.YtaaeekahhhookaaGreatDoor
