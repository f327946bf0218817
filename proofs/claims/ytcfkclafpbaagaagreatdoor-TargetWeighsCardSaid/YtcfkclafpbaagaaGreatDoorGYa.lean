/- schismaref04.Int of short texts. fraction.Check and monzo.Of of right long fractions. schismaref04.Gcd. fraction.Check and monzo.Of of wrong fractions; schismaref04.Parts. schismaref04.Parts. -/
import Derived.Test.YtcfkclafpbaagaaGreatDoorGC
import Derived.Test.YtcfkclafpbaagaaGreatDoorGI
import Derived.Test.YtcfkclafpbaagaaGreatDoorGF
namespace Go.Proofs.YtcfkclafpbaagaaGreatDoor
open Go.RowKit Go.Lib

def posOut (s : Int) (l : List UInt8) : Value := if canonB l = true then .tuple #[.int .i64 (s * (dval 0 l : Nat)), .bool true] else .tuple #[.int .i64 0, .bool false]

theorem ba_at (l : List UInt8) (k : Nat) : ∀ h, (⟨l.toArray⟩ : ByteArray)[k]'h = l[k]?.getD 0 := by
  intro h
  have hk : k < l.length := by simpa [ByteArray.size] using h
  rw [List.getElem?_eq_getElem hk]; rfl
theorem all_dig {l : List UInt8} (h : l.all digB = true) : ∀ c ∈ l, isDig c := fun c hc => of_decide_eq_true (List.all_eq_true.1 h c hc)
theorem take_dig {l : List UInt8} {k m : Nat} (h : (l.take k).all digB = true) (hk : k ≤ m) : dval 0 (l.take k) < 10 ^ m := by
  have h1 := dval_lt0 (l.take k) (all_dig h)
  have h2 : (l.take k).length ≤ k := by simp; omega
  exact Nat.lt_of_lt_of_le h1 (Nat.pow_le_pow_right (by omega) (by omega))
theorem posOut_no {s : Int} {l : List UInt8} (h : canonB l = false) : posOut s l = .tuple #[.int .i64 0, .bool false] := by unfold posOut; rw [h]; rfl
theorem posOut_yes {s : Int} {l : List UInt8} (h : canonB l = true) : posOut s l = .tuple #[.int .i64 (s * (dval 0 l : Nat)), .bool true] := by unfold posOut; rw [if_pos h]
theorem canon_zero {l : List UInt8} (h1 : 1 < l.length) (h2 : (l[0]?.getD 0).toNat = 48) : canonB l = false := by
  unfold canonB headB
  rw [h2]
  have : (l.length == 1) = false := by rw [beq_eq_false_iff_ne]; omega
  simp [this]
theorem canon_bad {l : List UInt8} {k : Nat} (hlt : k < l.length) (h : digB (l[k]?.getD 0) = false) : canonB l = false := by
  unfold canonB
  rw [Bool.and_eq_false_iff]
  left
  rw [List.all_eq_false]
  exact ⟨l[k], List.getElem_mem hlt, by rw [List.getElem?_eq_getElem hlt] at h; simpa using h⟩
theorem canon_good {l : List UInt8} (h : l.all digB = true) (h0 : l.length = 1 ∨ (1 < l.length ∧ (l[0]?.getD 0).toNat ≠ 48)) : canonB l = true := by
  unfold canonB headB
  rw [h, Bool.true_and]
  rcases h0 with h0 | ⟨h1, h2⟩
  · rw [h0]; rfl
  · simp [h1, h2]
theorem all_succ {l : List UInt8} {k : Nat} (hlt : k < l.length) : (l.take (k + 1)).all digB = ((l.take k).all digB && digB (l[k]?.getD 0)) := by
  rw [List.take_succ_eq_append_getElem hlt, List.all_append, List.getElem?_eq_getElem hlt]; simp

def negOut (l : List UInt8) : Value := if (l[0]?.getD 0).toNat = 48 then .tuple #[.int .i64 0, .bool false] else posOut (-1) l
theorem negOut_zero {l : List UInt8} (h : (l[0]?.getD 0).toNat = 48) : negOut l = .tuple #[.int .i64 0, .bool false] := by unfold negOut; rw [if_pos h]
theorem negOut_other {l : List UInt8} (h : (l[0]?.getD 0).toNat ≠ 48) : negOut l = posOut (-1) l := by unfold negOut; rw [if_neg h]

end Go.Proofs.YtcfkclafpbaagaaGreatDoor

namespace Go.Proofs.YtcfkclafpbaagaaGreatDoor
open Go.RowKit Go.Lib

set_option maxHeartbeats 1000000 in
theorem fracCheck_long (n d : Int) (w : World) (hS : Std w) (hn : (decDigits n.natAbs).length ≤ 400) (hd : (decDigits d.natAbs).length ≤ 400) (hd0 : 0 < d) (hg : Nat.gcd n.natAbs d.natAbs = 1) :
    Calls Tryz.prog 67 #[.agg #[.string ⟨(itoa n).toArray⟩, .string ⟨(itoa d).toArray⟩]] w fun e w' => e = .returned (.int .i64 0) ∧ Below w.heap.size w w' := by
  have hln := itoa_len n
  have hld := itoa_len d
  have HN := Lib.hid (fun W => whCheck_split (itoa n) W (by omega) 0 (.inl ⟨⟨n, rfl, by omega⟩, rfl⟩))
  have HD := Lib.hid (fun W => whCheck_split (itoa d) W (by omega) 0 (.inl ⟨⟨d, rfl, by omega⟩, rfl⟩))
  have hsg : sgn d = 1 := by unfold sgn; rw [if_neg (by omega), if_neg (by omega)]
  have HSG := Lib.hid (fun W => whSign_any d W (by omega))
  rw [hsg] at HSG
  have HG := Lib.hid (fun W hW => whGcd_any n d W hW (by omega) (by omega))
  rw [hg, dec_small (by omega)] at HG
  have HS := Lib.hid hS
  clear hsg hg hS hn hd hd0 hln hld
  generalize itoa n = a at *
  generalize itoa d = b at *
  go_enter Tryz.func67, Tryz.ntmps67
  go_wp2_with fail
  refine (HN.out _).mono ?_
  rintro e w1 ⟨rfl, hb1⟩
  rw [World.size_alloc] at hb1
  obtain ⟨q0, q1⟩ := rat_cells hb1
  go_wp2_with fail
  refine (HD.out _).mono ?_
  rintro e w2 ⟨rfl, hb2⟩
  have hb12 : Below (w.heap.size + 1) (w.alloc (.cells #[.string ⟨a.toArray⟩, .string ⟨b.toArray⟩] 53)) w2 := hb1.trans (hb2.mono (by have := hb1.size; simp at this; omega))
  clear q0 q1 hb1 hb2
  obtain ⟨q0, q1⟩ := rat_cells hb12
  go_wp2_with fail
  refine (HSG.out _).mono ?_
  rintro e w3 ⟨rfl, rfl⟩
  go_wp2_with fail
  have hs2 := HS.out.below (below_result hb12) (Nat.le_refl _)
  refine (HG.out _ hs2).mono ?_
  rintro e w4 ⟨rfl, hb4⟩
  go_wp2_with fail
  go_ret
  exact ⟨rfl, (below_result hb12).trans (hb4.mono (below_result hb12).size)⟩

set_option maxRecDepth 100000 in
set_option maxHeartbeats 2000000 in
theorem of_long (pv : Value) (p : List Int) (n d : Nat) (w : World) (hS : Std w) (hpv : IsRow w w.heap.size pv p) (hp : primeErr p = 0) (hn : (decDigits n).length ≤ 400) (hd : (decDigits d).length ≤ 400) (hn0 : 0 < n) (hd0 : 0 < d) (hg : Nat.gcd n d = 1) (hchk : chkAll p [expsTo p n d p.length] = 0) :
    Calls Tryz.prog 64 #[pv, .agg #[.string ⟨(decDigits n).toArray⟩, .string ⟨(decDigits d).toArray⟩]] w fun e w' => OfPost p n d e w' ∧ Below w.heap.size w w' := by
  obtain ⟨i0, hi0, hz0, hz1, hz2⟩ := info_parts Tryz.info_int
  obtain ⟨hp6, hp1, hpr⟩ := right_primes hp
  have HCH : Box (chkAll p [expsTo p n d p.length] = 0) := ⟨hchk⟩
  have HPC := Lib.hid (fun W h => primeCheck_any pv p W.heap.size W h)
  rw [hp] at HPC
  have hsg : sgn (n : Int) = 1 := by unfold sgn; rw [if_neg (by omega), if_neg (by omega)]
  have hln : (itoa (n : Int)).length ≤ 100000 := by rw [itoa_nat]; omega
  have HSG := Lib.hid (fun W => fracSign_any (n : Int) (decDigits d) W hln)
  rw [hsg, itoa_nat] at HSG
  have HFC := Lib.hid (fun W hW => fracCheck_long (n : Int) (d : Int) W hW (by simpa using hn) (by simpa using hd) (by omega) (by simpa using hg))
  rw [itoa_nat, itoa_nat] at HFC
  have HN : Box ((decDigits n).length ≤ 400 ∧ 0 < n) := ⟨hn, hn0⟩
  have HD : Box ((decDigits d).length ≤ 400 ∧ 0 < d) := ⟨hd, hd0⟩
  have HS := Lib.hid hS
  have HPV := Lib.hid hpv
  have HPR : Box (∀ k, k < p.length → 2 ≤ p[k]?.getD 0 ∧ p[k]?.getD 0 ≤ 97) := ⟨hpr⟩
  obtain ⟨AP, cp, rfl, _⟩ := hpv
  clear hchk hsg hln hn hd hn0 hd0 hS hp hg hpr
  generalize hla : decDigits n = la at *
  generalize hlb : decDigits d = lb at *
  have HLA : Box (decDigits n = la) := ⟨hla⟩
  have HLB : Box (decDigits d = lb) := ⟨hlb⟩
  clear hla hlb
  go_enter Tryz.func64, Tryz.ntmps64
  go_wp2_with fail
  refine (HPC.out _ ((HPV.out.alloc (Nat.le_refl _) _).up (by simp))).mono ?_
  rintro e w1 ⟨rfl, hw1⟩
  have hb1 : Below (w.heap.size + 1) (w.alloc (.cells #[.string ⟨la.toArray⟩, .string ⟨lb.toArray⟩] 53)) w1 := by rw [hw1]; exact Below.refl _ _
  clear hw1
  obtain ⟨q0, q1⟩ := rat_cells hb1
  go_wp2_with fail
  have hs1 := HS.out.below (below_result hb1) (Nat.le_refl _)
  refine (HFC.out _ hs1).mono ?_
  rintro e w2 ⟨rfl, hb2⟩
  have hb12 := hb1.trans (hb2.mono (by have := hb1.size; simp at this; omega))
  clear q0 q1
  obtain ⟨q0, q1⟩ := rat_cells hb12
  go_wp2_with fail
  refine (HSG.out _).mono ?_
  rintro e w3 ⟨rfl, hb3⟩
  have hb13 := hb12.trans (hb3.mono (by have := hb12.size; simp at this; omega))
  clear q0 q1
  obtain ⟨q0, q1⟩ := rat_cells hb13
  have hbw3 := below_result hb13
  clear hb1 hb2 hb12 hb3 hs1 hb13
  go_wp2_with fail
  go_quiet (fail)
  have hbw4 := below_drewN hbw3 nq
  clear hbw3 q0 q1
  go_wp2_with fail
  go_loopw [7, 8, 9, 33] (fun a b o i wr => ∃ k : Nat, k ≤ p.length ∧ i = .int .i64 k ∧ a = .string ⟨(decDigits (leftTo p n k)).toArray⟩ ∧ b = .string ⟨(decDigits (leftTo p d k)).toArray⟩ ∧ wr.ownsRow w.heap.size 3 1 o k (is (expsTo p n d k)) ∧ Below w.heap.size w wr) (fun _ _ _ i _ => p.length - (intOf i).toNat)
  case atStart => exact ⟨0, Nat.zero_le _, rfl, by rw [leftTo, HLA.out], by rw [leftTo, HLB.out], World.ownsRow_nil _ _ _ _, hbw4⟩
  case round =>
    clear hbw4
    obtain ⟨k, hk, rfl, rfl, rfl, hown, hbw⟩ := hrel
    have HO := Lib.hid hown
    clear hown
    by_cases hlt : k < p.length
    · obtain ⟨A', c', e', _, _, hr⟩ := HPV.out
      injection e' with e1 _ e3
      subst e1 e3
      obtain ⟨ad, rfl, _, hca⟩ := (hr.below hbw (Nat.le_refl _)).i_at hlt
      clear hr
      have hpk := HPR.out k hlt
      have hl1 := leftTo_le p n HN.out.2 k
      have hl2 := leftTo_le p d HD.out.2 k
      have e1 : leftTo p n (k + 1) = left (p[k]?.getD 0).toNat (leftTo p n k) := rfl
      have e2 : leftTo p d (k + 1) = left (p[k]?.getD 0).toNat (leftTo p d k) := rfl
      have e3 : expsTo p n d (k + 1) = expsTo p n d k ++ [(mult (p[k]?.getD 0).toNat (leftTo p n k) : Int) - (mult (p[k]?.getD 0).toNat (leftTo p d k) : Int)] := rfl
      generalize p[k]?.getD 0 = q0 at *
      obtain ⟨q, rfl⟩ : ∃ q : Nat, q0 = (q : Int) := ⟨q0.toNat, by omega⟩
      rw [Int.toNat_natCast] at e1 e2 e3
      have hdn : (decDigits (leftTo p n k)).length ≤ 400 := Nat.le_trans (dec_le_len hl1.1) (by rw [HLA.out]; exact HN.out.1)
      have hdd : (decDigits (leftTo p d k)).length ≤ 400 := Nat.le_trans (dec_le_len hl2.1) (by rw [HLB.out]; exact HD.out.1)
      have hm1 := mult_le_len q (leftTo p n k)
      have hm2 := mult_le_len q (leftTo p d k)
      have HE1 := Lib.hid (fun W hW => exponentL_any (leftTo p n k) q W hW (by omega) hl1.2 (by omega) (by omega))
      have HE2 := Lib.hid (fun W hW => exponentL_any (leftTo p d k) q W hW (by omega) hl2.2 (by omega) (by omega))
      have hsr := HS.out.below hbw (Nat.le_refl _)
      have HSR := Lib.hid hsr
      have E1 := Lib.hid e1
      have E2 := Lib.hid e2
      have E3 := Lib.hid e3
      have hmm1 : mult q (leftTo p n k) ≤ 1600 := by omega
      have hmm2 : mult q (leftTo p d k) ≤ 1600 := by omega
      clear e1 e2 e3 hl1 hl2 hdn hdd hsr hm1 hm2
      generalize mult q (leftTo p n k) = m1 at *
      generalize mult q (leftTo p d k) = m2 at *
      go_wp2_with fail
      refine (HE1.out _ HSR.out).mono ?_
      rintro e w1 ⟨rfl, hb1⟩
      go_wp2_with fail
      refine (HE2.out _ (HSR.out.below hb1 (Nat.le_refl _))).mono ?_
      rintro e w2 ⟨rfl, hb2⟩
      have h12 := hb1.trans (hb2.mono hb1.size)
      have hown2 := own_below HO.out h12
      go_wp2_with (at_builtin; refine wpList_append_own _ rfl _ _ _ rfl w.heap.size 3 i0 (.int .i64 0) 1 8 Tryz.underlying28 hi0 hz0 hz1 hz2 rfl (by decide) _ _ _ rfl (hown2.alloc _) ⟨w2.heap.size, 0, Option.none⟩ 1 1 [_] rfl rfl (cell_one_new _ _ _) (by intro u hu; simp at hu; subst hu; rfl) (by unfold maxLen; omega) (by omega) (by have := hbw.size; have := h12.size; simp; omega) ?_; intro v3 w3 hown3 hg3 _)
      go_wp2
      go_roundw
      case rel =>
        refine ⟨k + 1, by omega, by go_num, by rw [E1.out], by rw [E2.out], ?_, ?_⟩
        · rw [E3.out, is_append]; exact hown3
        · exact ((hbw.trans (h12.mono hbw.size)).alloc (by have := hbw.size; have := h12.size; omega) _).grown hg3 (by have := hbw.size; have := h12.size; simp; omega) (fun k hk => (HO.out.lt k hk).1)
      case measure => simp [intOf]; omega
    · obtain rfl : k = p.length := by omega
      have h1 := dec_eq_one (leftTo p n p.length)
      have h2 := dec_eq_one (leftTo p d p.length)
      by_cases hn1 : leftTo p n p.length = 1
      · rw [decide_eq_true hn1] at h1
        have h1' : (decDigits (leftTo p n p.length) != [49]) = false := by simp only [bne, h1]; rfl
        by_cases hd1 : leftTo p d p.length = 1
        · rw [decide_eq_true hd1] at h2
          have h2' : (decDigits (leftTo p d p.length) != [49]) = false := by simp only [bne, h2]; rfl
          have HH : Box (leftTo p n p.length = 1 ∧ leftTo p d p.length = 1) := ⟨hn1, hd1⟩
          have hex : wr.ownsRow w.heap.size 3 1 u9 (expsTo p n d p.length).length (is (expsTo p n d p.length)) := by rw [expsTo_len]; exact HO.out
          have hri := IsRow.of_own hex
          have HR := Lib.hid (result_yes _ _ p _ wr (HPV.out.lift hbw) hri HCH.out)
          have HRI := Lib.hid hri
          clear hn1 hd1 hex hri
          go_wp2_with fail
          refine HR.out.mono ?_
          rintro e w1 ⟨rfl, hb1⟩
          go_wp2_with fail
          go_ret2
          exact ⟨.inl ⟨HH.out.1, HH.out.2, _, rfl, HRI.out.lift hb1⟩, hbw.trans (hb1.mono hbw.size)⟩
        · rw [decide_eq_false hd1] at h2
          have h2' : (decDigits (leftTo p d p.length) != [49]) = true := by simp only [bne, h2]; rfl
          have HH : Box (¬ (leftTo p n p.length = 1 ∧ leftTo p d p.length = 1)) := ⟨fun h => hd1 h.2⟩
          clear hn1 hd1
          go_wp2_with fail
          go_ret2
          exact ⟨.inr ⟨HH.out, rfl⟩, hbw⟩
      · rw [decide_eq_false hn1] at h1
        have h1' : (decDigits (leftTo p n p.length) != [49]) = true := by simp only [bne, h1]; rfl
        have HH : Box (¬ (leftTo p n p.length = 1 ∧ leftTo p d p.length = 1)) := ⟨fun h => hn1 h.1⟩
        clear hn1 h2
        go_wp2_with fail
        go_ret2
        exact ⟨.inr ⟨HH.out, rfl⟩, hbw⟩

end Go.Proofs.YtcfkclafpbaagaaGreatDoor

namespace Go.Proofs.YtcfkclafpbaagaaGreatDoor
open Go.RowKit Go.Lib

end Go.Proofs.YtcfkclafpbaagaaGreatDoor

namespace Go.Proofs.YtcfkclafpbaagaaGreatDoor
open Go.RowKit Go.Lib

/-- A right fraction, as text. -/
def FracB (a b : List UInt8) : Prop := ∃ n d : Int, a = itoa n ∧ b = itoa d ∧ (decDigits n.natAbs).length ≤ 400 ∧ (decDigits d.natAbs).length ≤ 400 ∧ 0 < d ∧ Nat.gcd n.natAbs d.natAbs = 1

set_option maxRecDepth 100000 in
set_option maxHeartbeats 1000000 in
theorem fracCheck_no1 (a b : List UInt8) (w : World) (ha : a.length ≤ 100000) (h : ¬ intB a) :
    Calls Tryz.prog 67 #[.agg #[.string ⟨a.toArray⟩, .string ⟨b.toArray⟩]] w fun e w' => e = .returned (.int .i64 2) ∧ Below w.heap.size w w' := by
  have HN := Lib.hid (fun W => whCheck_split a W ha 2 (.inr ⟨h, rfl⟩))
  clear h
  go_enter Tryz.func67, Tryz.ntmps67
  go_wp2_with fail
  refine (HN.out _).mono ?_
  rintro e w1 ⟨rfl, hb1⟩
  rw [World.size_alloc] at hb1
  go_wp2_with fail
  go_ret
  exact ⟨rfl, below_result hb1⟩

set_option maxRecDepth 100000 in
set_option maxHeartbeats 1000000 in
theorem fracCheck_no2 (a b : List UInt8) (w : World) (ha : a.length ≤ 100000) (hb : b.length ≤ 100000) (h : intB a) (h2 : ¬ intB b) :
    Calls Tryz.prog 67 #[.agg #[.string ⟨a.toArray⟩, .string ⟨b.toArray⟩]] w fun e w' => e = .returned (.int .i64 2) ∧ Below w.heap.size w w' := by
  have HN := Lib.hid (fun W => whCheck_split a W ha 0 (.inl ⟨h, rfl⟩))
  have HD := Lib.hid (fun W => whCheck_split b W hb 2 (.inr ⟨h2, rfl⟩))
  clear h h2
  go_enter Tryz.func67, Tryz.ntmps67
  go_wp2_with fail
  refine (HN.out _).mono ?_
  rintro e w1 ⟨rfl, hb1⟩
  rw [World.size_alloc] at hb1
  obtain ⟨q0, q1⟩ := rat_cells hb1
  go_wp2_with fail
  refine (HD.out _).mono ?_
  rintro e w2 ⟨rfl, hb2⟩
  have hb12 : Below (w.heap.size + 1) (w.alloc (.cells #[.string ⟨a.toArray⟩, .string ⟨b.toArray⟩] 53)) w2 := hb1.trans (hb2.mono (by have := hb1.size; simp at this; omega))
  clear q0 q1 hb1 hb2
  go_wp2_with fail
  go_ret
  exact ⟨rfl, below_result hb12⟩

set_option maxRecDepth 100000 in
set_option maxHeartbeats 1000000 in
theorem fracCheck_no3 (n d : Int) (w : World) (hn : (decDigits n.natAbs).length ≤ 400) (hd : (decDigits d.natAbs).length ≤ 400) (hd0 : d ≤ 0) :
    Calls Tryz.prog 67 #[.agg #[.string ⟨(itoa n).toArray⟩, .string ⟨(itoa d).toArray⟩]] w fun e w' => e = .returned (.int .i64 2) ∧ Below w.heap.size w w' := by
  have hln := itoa_len n
  have hld := itoa_len d
  have HN := Lib.hid (fun W => whCheck_split (itoa n) W (by omega) 0 (.inl ⟨⟨n, rfl, by omega⟩, rfl⟩))
  have HD := Lib.hid (fun W => whCheck_split (itoa d) W (by omega) 0 (.inl ⟨⟨d, rfl, by omega⟩, rfl⟩))
  have hsg : sgn d ≤ 0 := by unfold sgn; split <;> (try split) <;> omega
  have HSG := Lib.hid (fun W => whSign_any d W (by omega))
  clear hn hd hd0 hln hld
  generalize itoa n = a at *
  generalize itoa d = b at *
  generalize sgn d = sg at *
  go_enter Tryz.func67, Tryz.ntmps67
  go_wp2_with fail
  refine (HN.out _).mono ?_
  rintro e w1 ⟨rfl, hb1⟩
  rw [World.size_alloc] at hb1
  obtain ⟨q0, q1⟩ := rat_cells hb1
  go_wp2_with fail
  refine (HD.out _).mono ?_
  rintro e w2 ⟨rfl, hb2⟩
  have hb12 : Below (w.heap.size + 1) (w.alloc (.cells #[.string ⟨a.toArray⟩, .string ⟨b.toArray⟩] 53)) w2 := hb1.trans (hb2.mono (by have := hb1.size; simp at this; omega))
  clear q0 q1 hb1 hb2
  obtain ⟨q0, q1⟩ := rat_cells hb12
  go_wp2_with fail
  refine (HSG.out _).mono ?_
  rintro e w3 ⟨rfl, rfl⟩
  go_wp2_with fail
  go_ret
  exact ⟨rfl, below_result hb12⟩

set_option maxRecDepth 100000 in
set_option maxHeartbeats 1000000 in
theorem fracCheck_no4 (n d : Int) (w : World) (hS : Std w) (hn : (decDigits n.natAbs).length ≤ 400) (hd : (decDigits d.natAbs).length ≤ 400) (hd0 : 0 < d) (hg : Nat.gcd n.natAbs d.natAbs ≠ 1) :
    Calls Tryz.prog 67 #[.agg #[.string ⟨(itoa n).toArray⟩, .string ⟨(itoa d).toArray⟩]] w fun e w' => e = .returned (.int .i64 2) ∧ Below w.heap.size w w' := by
  have hln := itoa_len n
  have hld := itoa_len d
  have HN := Lib.hid (fun W => whCheck_split (itoa n) W (by omega) 0 (.inl ⟨⟨n, rfl, by omega⟩, rfl⟩))
  have HD := Lib.hid (fun W => whCheck_split (itoa d) W (by omega) 0 (.inl ⟨⟨d, rfl, by omega⟩, rfl⟩))
  have hsg : sgn d = 1 := by unfold sgn; rw [if_neg (by omega), if_neg (by omega)]
  have HSG := Lib.hid (fun W => whSign_any d W (by omega))
  rw [hsg] at HSG
  have HG := Lib.hid (fun W hW => whGcd_any n d W hW (by omega) (by omega))
  have hg1 := dec_eq_one (Nat.gcd n.natAbs d.natAbs)
  rw [decide_eq_false hg] at hg1
  have hg2 : (decDigits (Nat.gcd n.natAbs d.natAbs) != [49]) = true := by simp only [bne, hg1]; rfl
  generalize decDigits (Nat.gcd n.natAbs d.natAbs) = lg at *
  have HS := Lib.hid hS
  clear hsg hg hS hn hd hd0 hln hld
  generalize itoa n = a at *
  generalize itoa d = b at *
  go_enter Tryz.func67, Tryz.ntmps67
  go_wp2_with fail
  refine (HN.out _).mono ?_
  rintro e w1 ⟨rfl, hb1⟩
  rw [World.size_alloc] at hb1
  obtain ⟨q0, q1⟩ := rat_cells hb1
  go_wp2_with fail
  refine (HD.out _).mono ?_
  rintro e w2 ⟨rfl, hb2⟩
  have hb12 : Below (w.heap.size + 1) (w.alloc (.cells #[.string ⟨a.toArray⟩, .string ⟨b.toArray⟩] 53)) w2 := hb1.trans (hb2.mono (by have := hb1.size; simp at this; omega))
  clear q0 q1 hb1 hb2
  obtain ⟨q0, q1⟩ := rat_cells hb12
  go_wp2_with fail
  refine (HSG.out _).mono ?_
  rintro e w3 ⟨rfl, rfl⟩
  go_wp2_with fail
  have hs2 := HS.out.below (below_result hb12) (Nat.le_refl _)
  refine (HG.out _ hs2).mono ?_
  rintro e w4 ⟨rfl, hb4⟩
  go_wp2_with fail
  go_ret
  exact ⟨rfl, (below_result hb12).trans (hb4.mono (below_result hb12).size)⟩

theorem fracCheck_no (a b : List UInt8) (w : World) (hS : Std w) (ha : a.length ≤ 100000) (hb : b.length ≤ 100000) (h : ¬ FracB a b) :
    Calls Tryz.prog 67 #[.agg #[.string ⟨a.toArray⟩, .string ⟨b.toArray⟩]] w fun e w' => e = .returned (.int .i64 2) ∧ Below w.heap.size w w' := by
  by_cases h1 : intB a
  · by_cases h2 : intB b
    · obtain ⟨n, rfl, hn⟩ := h1
      obtain ⟨d, rfl, hd⟩ := h2
      by_cases hd0 : 0 < d
      · exact fracCheck_no4 n d w hS hn hd hd0 (fun hg => h ⟨n, d, rfl, rfl, hn, hd, hd0, hg⟩)
      · exact fracCheck_no3 n d w hn hd (by omega)
    · exact fracCheck_no2 a b w ha hb h1 h2
  · exact fracCheck_no1 a b w ha h1

set_option maxRecDepth 100000 in
set_option maxHeartbeats 2000000 in
theorem of_bad (pv : Value) (p : List Int) (la lb : List UInt8) (w : World) (hS : Std w) (hpv : IsRow w w.heap.size pv p) (hp : primeErr p = 0) (ha : la.length ≤ 100000) (hb : lb.length ≤ 100000) (h : ¬ FracB la lb) :
    Calls Tryz.prog 64 #[pv, .agg #[.string ⟨la.toArray⟩, .string ⟨lb.toArray⟩]] w fun e w' => e = .returned (.tuple #[.slice Option.none 0 0, .int .i64 2]) ∧ Below w.heap.size w w' := by
  have HPC := Lib.hid (fun W h => primeCheck_any pv p W.heap.size W h)
  rw [hp] at HPC
  have HFC := Lib.hid (fun W hW => fracCheck_no la lb W hW ha hb h)
  have HS := Lib.hid hS
  have HPV := Lib.hid hpv
  obtain ⟨AP, cp, rfl, _⟩ := hpv
  clear hS hp h
  go_enter Tryz.func64, Tryz.ntmps64
  go_wp2_with fail
  refine (HPC.out _ ((HPV.out.alloc (Nat.le_refl _) _).up (by simp))).mono ?_
  rintro e w1 ⟨rfl, hw1⟩
  have hb1 : Below (w.heap.size + 1) (w.alloc (.cells #[.string ⟨la.toArray⟩, .string ⟨lb.toArray⟩] 53)) w1 := by rw [hw1]; exact Below.refl _ _
  clear hw1
  obtain ⟨q0, q1⟩ := rat_cells hb1
  go_wp2_with fail
  have hs1 := HS.out.below (below_result hb1) (Nat.le_refl _)
  refine (HFC.out _ hs1).mono ?_
  rintro e w2 ⟨rfl, hb2⟩
  have hb12 := hb1.trans (hb2.mono (by have := hb1.size; simp at this; omega))
  go_wp2_with fail
  go_ret2
  exact ⟨rfl, below_result hb12⟩

set_option maxRecDepth 100000 in
set_option maxHeartbeats 2000000 in
theorem of_neg (pv : Value) (p : List Int) (n d : Int) (w : World) (hS : Std w) (hpv : IsRow w w.heap.size pv p) (hp : primeErr p = 0) (hn : (decDigits n.natAbs).length ≤ 400) (hd : (decDigits d.natAbs).length ≤ 400) (hd0 : 0 < d) (hg : Nat.gcd n.natAbs d.natAbs = 1) (hn0 : n ≤ 0) :
    Calls Tryz.prog 64 #[pv, .agg #[.string ⟨(itoa n).toArray⟩, .string ⟨(itoa d).toArray⟩]] w fun e w' => e = .returned (.tuple #[.slice Option.none 0 0, .int .i64 3]) ∧ Below w.heap.size w w' := by
  have HPC := Lib.hid (fun W h => primeCheck_any pv p W.heap.size W h)
  rw [hp] at HPC
  have HFC := Lib.hid (fun W hW => fracCheck_long n d W hW hn hd hd0 hg)
  have hln := itoa_len n
  have HSG := Lib.hid (fun W => fracSign_any n (itoa d) W (by omega))
  have hsg : sgn n ≤ 0 := by unfold sgn; split <;> (try split) <;> omega
  generalize sgn n = sg at *
  generalize itoa n = la at *
  generalize itoa d = lb at *
  have HS := Lib.hid hS
  have HPV := Lib.hid hpv
  obtain ⟨AP, cp, rfl, _⟩ := hpv
  clear hS hp hn hd hd0 hg hn0 hln
  go_enter Tryz.func64, Tryz.ntmps64
  go_wp2_with fail
  refine (HPC.out _ ((HPV.out.alloc (Nat.le_refl _) _).up (by simp))).mono ?_
  rintro e w1 ⟨rfl, hw1⟩
  have hb1 : Below (w.heap.size + 1) (w.alloc (.cells #[.string ⟨la.toArray⟩, .string ⟨lb.toArray⟩] 53)) w1 := by rw [hw1]; exact Below.refl _ _
  clear hw1
  obtain ⟨q0, q1⟩ := rat_cells hb1
  go_wp2_with fail
  have hs1 := HS.out.below (below_result hb1) (Nat.le_refl _)
  refine (HFC.out _ hs1).mono ?_
  rintro e w2 ⟨rfl, hb2⟩
  have hb12 := hb1.trans (hb2.mono (by have := hb1.size; simp at this; omega))
  clear q0 q1
  obtain ⟨q0, q1⟩ := rat_cells hb12
  go_wp2_with fail
  refine (HSG.out _).mono ?_
  rintro e w3 ⟨rfl, hb3⟩
  have hb13 := hb12.trans (hb3.mono (by have := hb12.size; simp at this; omega))
  go_wp2_with fail
  go_ret2
  exact ⟨rfl, below_result hb13⟩

end Go.Proofs.YtcfkclafpbaagaaGreatDoor

namespace Go.Proofs.YtcfkclafpbaagaaGreatDoor
open Go.RowKit Go.Lib

def IntOut (l : List UInt8) (v : Value) : Prop := (∃ z : Int, l = itoa z ∧ z.natAbs < 10 ^ 13 ∧ v = .tuple #[.int .i64 z, .bool true]) ∨ (¬ intB l ∧ v = .tuple #[.int .i64 0, .bool false])

theorem itoa_nonempty (z : Int) : itoa z ≠ [] := by
  rcases itoa_cases z with ⟨_, e⟩ | ⟨_, e⟩
  · rw [e]; simp
  · rw [e]; obtain ⟨c, r, e2, _⟩ := dec_first z.natAbs; rw [e2]; simp
theorem dec13 {n : Nat} (h : (decDigits n).length ≤ 13) : n < 10 ^ 13 := Nat.lt_of_lt_of_le (dec_lt_pow n) (Nat.pow_le_pow_right (by omega) h)

/-- What Parts returns. -/
def PartsOut (a b : List UInt8) (v : Value) : Prop :=
  (∃ n d : Int, a = itoa n ∧ b = itoa d ∧ n.natAbs < 10 ^ 13 ∧ d.natAbs < 10 ^ 13 ∧ 0 < d ∧ Nat.gcd n.natAbs d.natAbs = 1 ∧ v = .tuple #[.int .i64 n, .int .i64 d, .bool true]) ∨
  (¬ FracB a b ∧ v = .tuple #[.int .i64 0, .int .i64 0, .bool false])

theorem frac_intB {a b : List UInt8} (h : FracB a b) : intB a ∧ intB b := by
  obtain ⟨n, d, h1, h2, h3, h4, _⟩ := h
  exact ⟨⟨n, h1, h3⟩, ⟨d, h2, h4⟩⟩
theorem itoa_inj {n m : Int} (h : itoa n = itoa m) : n = m := by
  rcases itoa_cases n with ⟨hn, e⟩ | ⟨hn, e⟩ <;> rcases itoa_cases m with ⟨hm, e2⟩ | ⟨hm, e2⟩
  · rw [e, e2] at h
    injection h with _ h
    have := congrArg (dval 0) h
    rw [dval_dec, dval_dec] at this
    omega
  · rw [e, e2] at h
    obtain ⟨c, r, e3, hc, _⟩ := dec_first m.natAbs
    rw [e3] at h
    injection h with h _
    subst h
    simp at hc
  · rw [e, e2] at h
    obtain ⟨c, r, e3, hc, _⟩ := dec_first n.natAbs
    rw [e3] at h
    injection h with h _
    subst h
    simp at hc
  · rw [e, e2] at h
    have := congrArg (dval 0) h
    rw [dval_dec, dval_dec] at this
    omega

end Go.Proofs.YtcfkclafpbaagaaGreatDoor
