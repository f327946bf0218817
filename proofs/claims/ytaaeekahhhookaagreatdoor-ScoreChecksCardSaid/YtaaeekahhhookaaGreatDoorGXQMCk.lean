import Derived.Test.YtaaeekahhhookaaGreatDoorGIMCk
import Derived.Test.YtaaeekahhhookaaGreatDoorGGMCk
import Derived.Test.YtaaeekahhhookaaGreatDoorSayMCk
import Derived.Test.YtaaeekahhhookaaGreatDoorFSgMCk
import Derived.Test.YtaaeekahhhookaaGreatDoorGXPMCk
import Derived.Laws.RangeAny
import Derived.Laws.Runes
import Derived.WalkMore
import Derived.Deep.RegionHeld3
import Derived.Shelf.Strings.IndexAnyAll
namespace Go.Proofs.YtaaeekahhhookaaGreatDoor
open Go.RowKit Go.Lib
theorem of_good {p : List Int} {n d : Nat} {e : Ending} {w' : World} (hL : leftTo p n p.length = 1 ∧ leftTo p d p.length = 1) (h : OfPost p n d e w') : ∃ A c, e = .returned (.tuple #[.slice A (expsTo p n d p.length).length c, .int .i64 0]) ∧ IsRow w' w'.heap.size (.slice A (expsTo p n d p.length).length c) (expsTo p n d p.length) := by
 rcases h with ⟨_, _, v, rfl, hr⟩ | ⟨hn, _⟩
 ·have hr' := hr
  obtain ⟨A, c, rfl, _⟩ := hr'
  exact ⟨A, c, rfl, hr⟩
 ·exact absurd hL hn
theorem of_none {p : List Int} {n d : Nat} {e : Ending} {w' : World} (hL : ¬ (leftTo p n p.length = 1 ∧ leftTo p d p.length = 1)) (h : OfPost p n d e w') : e = .returned (.tuple #[.slice Option.none 0 0, .int .i64 25]) := by
 rcases h with ⟨h1, h2, _⟩ | ⟨_, rfl⟩
 ·exact absurd ⟨h1, h2⟩ hL
 ·rfl
inductive ORes where
 | err (e : Int)
 | row (x : List Int)
def OPost (w' : World) : ORes → Ending → Prop
 | .err er, e => e = .returned (.tuple #[.slice Option.none 0 0, .int .i64 er])
 | .row x, e => ∃ A c, e = .returned (.tuple #[.slice A x.length c, .int .i64 0]) ∧ IsRow w' w'.heap.size (.slice A x.length c) x
def ofRes (p : List Int) (n d : Int) : ORes :=
 if n ≤ 0 then .err 3
 else if leftTo p n.natAbs p.length = 1 ∧ leftTo p d.natAbs p.length = 1 then .row (expsTo p n.natAbs d.natAbs p.length) else .err 25
theorem expsTo_long (p : List Int) (n d : Nat) (hn : (decDigits n).length ≤ 60) (hd : (decDigits d).length ≤ 60) (n0 : 0 < n) (d0 : 0 < d) : ∀ k, ∀ v ∈ expsTo p n d k, -1000 ≤ v ∧ v ≤ 1000
 | 0, v, hv => by simp [expsTo] at hv
 | k + 1, v, hv => by
   rw [expsTo] at hv
   rcases List.mem_append.1 hv with hv | hv
   ·exact expsTo_long p n d hn hd n0 d0 k v hv
   ·rw [List.mem_singleton] at hv
    have h1 := dec_le_len (leftTo_le p n n0 k).1
    have h2 := dec_le_len (leftTo_le p d d0 k).1
    have h3 := mult_le_len (p[k]?.getD 0).toNat (leftTo p n k)
    have h4 := mult_le_len (p[k]?.getD 0).toNat (leftTo p d k)
    omega
theorem of_read (pv : Value) (p : List Int) (n d : Int) (w : World) (hS : Std w) (hpv : IsRow w w.heap.size pv p) (hp : primeErr p = 0) (hn : (decDigits n.natAbs).length ≤ 60) (hd : (decDigits d.natAbs).length ≤ 60) (hd0 : 0 < d) (hg : Nat.gcd n.natAbs d.natAbs = 1) :
  Calls Tryz.prog 87 #[pv, .agg #[.string ⟨(itoa n).toArray⟩, .string ⟨(itoa d).toArray⟩]] w fun e w' => OPost w' (ofRes p n d) e ∧ Below w.heap.size w w' := by
 unfold ofRes
 by_cases h0 : n ≤ 0
 ·rw [if_pos h0]
  exact of_neg pv p n d w hS hpv hp (by omega) (by omega) hd0 hg h0
 ·rw [if_neg h0]
  have e1 : itoa n = decDigits n.natAbs := by rcases itoa_cases n with ⟨h, _⟩ | ⟨_, h⟩; omega; exact h
  have e2 : itoa d = decDigits d.natAbs := by rcases itoa_cases d with ⟨h, _⟩ | ⟨_, h⟩; omega; exact h
  rw [e1, e2]
  refine (of_long pv p n.natAbs d.natAbs w hS hpv hp (by omega) (by omega) (by omega) (by omega) hg (chk_small hp (expsTo_len p _ _ _) (expsTo_long p _ _ hn hd (by omega) (by omega) _))).mono fun e w' ⟨ho, hb⟩ => ⟨?_, hb⟩
  by_cases hL : leftTo p n.natAbs p.length = 1 ∧ leftTo p d.natAbs p.length = 1
  ·rw [if_pos hL]; exact of_good hL ho
  ·rw [if_neg hL]; exact of_none hL ho
theorem fracRead_short {t : List UInt8} {k : Int} {n d : Nat} {m : Nat} (h : fracRead t k = .good n d) (hl : t.length ≤ m) (hm : 1 ≤ m) : 0 < d ∧ (decDigits n).length ≤ m ∧ (decDigits d).length ≤ m + 1 := by
 have h1 : (decDigits 1).length = 1 := by rw [dec_small (by omega)]; rfl
 unfold fracRead at h
 split at h
 ·split at h
  ·rename_i ho
   injection h with h2 h3
   subst h2 h3
   have := dval_len ho
   exact ⟨by omega, by omega, by omega⟩
  ·cases h
 ·split at h
  ·split at h
   ·rename_i ho
    rw [Bool.and_eq_true] at ho
    have e1 := dval_len ho.1
    have e2 := dval_len ho.2
    have e3 : (t.take k.toNat).length ≤ m := by rw [List.length_take]; omega
    have e4 : (t.drop (k.toNat + 1)).length ≤ m := by rw [List.length_drop]; omega
    split at h
    ·cases h
    ·injection h with h2 h3
     subst h2 h3
     exact ⟨by omega, by omega, by omega⟩
   ·cases h
  ·split at h
   ·rename_i ho
    rw [Bool.and_eq_true] at ho
    injection h with h2 h3
    subst h2 h3
    have e1 := dval_len (okDig_append ho.1 ho.2)
    have e3 : (t.take k.toNat ++ t.drop (k.toNat + 1)).length ≤ m := by rw [List.length_append, List.length_take, List.length_drop]; omega
    have e4 : (decDigits (10 ^ (t.length - k.toNat - 1))).length = t.length - k.toNat - 1 + 1 := by rw [dec_pow10]; simp
    exact ⟨Nat.pow_pos (by omega), by omega, by omega⟩
   ·cases h
theorem fracOf_short {s : List UInt8} {n d : Nat} (hl : s.length ≤ 40) (h : fracOf s = .good n d) : 0 < d ∧ (decDigits n).length ≤ 40 ∧ (decDigits d).length ≤ 41 := by
 unfold fracOf at h
 rw [if_neg (by omega)] at h
 exact fracRead_short h (Nat.le_trans (trimPre_len s [45]) hl) (by omega)
end Go.Proofs.YtaaeekahhhookaaGreatDoor
