/- MonzoReads: monzo.Parse of any text, and the walk. -/
import Derived.Test.YtagfnnongamneaaGreatDoorRd1G
import Derived.Test.YtagfnnongamneaaGreatDoorLex4G
import Derived.Test.YtagfnnongamneaaGreatDoorOfLG
import Derived.Test.YtagfnnongamneaaGreatDoorGG
namespace Go.Proofs.YtagfnnongamneaaGreatDoor
open Go.RowKit Go.Lib

/-- What monzo.Of and monzo.Parse return: an error, or a row. -/
inductive ORes where
  | err (e : Int)
  | row (x : List Int)
def OPost (w' : World) : ORes → Ending → Prop
  | .err er, e => e = .returned (.tuple #[.slice Option.none 0 0, .int .i64 er])
  | .row x, e => ∃ A c, e = .returned (.tuple #[.slice A x.length c, .int .i64 0]) ∧ IsRow w' w'.heap.size (.slice A x.length c) x
def ofRes (p : List Int) (n d : Int) : ORes :=
  if n ≤ 0 then .err 3
  else if leftTo p n.natAbs p.length = 1 ∧ leftTo p d.natAbs p.length = 1 then .row (expsTo p n.natAbs d.natAbs p.length) else .err 25

theorem expsTo_long (p : List Int) (n d : Nat) (hn : (decDigits n).length ≤ 60) (hd : (decDigits d).length ≤ 60) (n0 : 0 < n) (d0 : 0 < d) : ∀ k, ∀ v ∈ expsTo p n d k, -1000 ≤ v ∧ v ≤ 1000
  | 0, v, hv => by simp [expsTo] at hv
  | k + 1, v, hv => by
    rw [expsTo] at hv
    rcases List.mem_append.1 hv with hv | hv
    · exact expsTo_long p n d hn hd n0 d0 k v hv
    · rw [List.mem_singleton] at hv
      have h1 := dec_le_len (leftTo_le p n n0 k).1
      have h2 := dec_le_len (leftTo_le p d d0 k).1
      have h3 := mult_le_len (p[k]?.getD 0).toNat (leftTo p n k)
      have h4 := mult_le_len (p[k]?.getD 0).toNat (leftTo p d k)
      omega

theorem of_read (pv : Value) (p : List Int) (n d : Int) (w : World) (hS : Std w) (hpv : IsRow w w.heap.size pv p) (hp : primeErr p = 0) (hn : (decDigits n.natAbs).length ≤ 60) (hd : (decDigits d.natAbs).length ≤ 60) (hd0 : 0 < d) (hg : Nat.gcd n.natAbs d.natAbs = 1) :
    Calls Tryz.prog 42 #[pv, .agg #[.string ⟨(itoa n).toArray⟩, .string ⟨(itoa d).toArray⟩]] w fun e w' => OPost w' (ofRes p n d) e ∧ Below w.heap.size w w' := by
  unfold ofRes
  by_cases h0 : n ≤ 0
  · rw [if_pos h0]
    exact of_neg pv p n d w hS hpv hp (by omega) (by omega) hd0 hg h0
  · rw [if_neg h0]
    have e1 : itoa n = decDigits n.natAbs := by rcases itoa_cases n with ⟨h, _⟩ | ⟨_, h⟩; omega; exact h
    have e2 : itoa d = decDigits d.natAbs := by rcases itoa_cases d with ⟨h, _⟩ | ⟨_, h⟩; omega; exact h
    rw [e1, e2]
    refine (of_long pv p n.natAbs d.natAbs w hS hpv hp (by omega) (by omega) (by omega) (by omega) hg (chk_small hp (expsTo_len p _ _ _) (expsTo_long p _ _ hn hd (by omega) (by omega) _))).mono fun e w' ⟨ho, hb⟩ => ⟨?_, hb⟩
    by_cases hL : leftTo p n.natAbs p.length = 1 ∧ leftTo p d.natAbs p.length = 1
    · rw [if_pos hL]; exact of_good hL ho
    · rw [if_neg hL]; exact of_none hL ho

def rowRes (p : List Int) : Rrd → ORes
  | .bad e => .err e
  | .good x k => if k then (if chkAll p [x] = 0 then .row x else .err (chkAll p [x])) else .err 15
def fracRes (p : List Int) (b : Bool) : Frd → ORes
  | .bad e => .err e
  | .good n d => ofRes p (lowN (sgnd b n) d) (lowD (sgnd b n) d)

theorem fracRead_short {t : List UInt8} {k : Int} {n d : Nat} {m : Nat} (h : fracRead t k = .good n d) (hl : t.length ≤ m) (hm : 1 ≤ m) : 0 < d ∧ (decDigits n).length ≤ m ∧ (decDigits d).length ≤ m + 1 := by
  have h1 : (decDigits 1).length = 1 := by rw [dec_small (by omega)]; rfl
  unfold fracRead at h
  split at h
  · split at h
    · rename_i ho
      injection h with h2 h3
      subst h2 h3
      have := dval_len ho
      exact ⟨by omega, by omega, by omega⟩
    · cases h
  · split at h
    · split at h
      · rename_i ho
        rw [Bool.and_eq_true] at ho
        have e1 := dval_len ho.1
        have e2 := dval_len ho.2
        have e3 : (t.take k.toNat).length ≤ m := by rw [List.length_take]; omega
        have e4 : (t.drop (k.toNat + 1)).length ≤ m := by rw [List.length_drop]; omega
        split at h
        · cases h
        · injection h with h2 h3
          subst h2 h3
          exact ⟨by omega, by omega, by omega⟩
      · cases h
    · split at h
      · rename_i ho
        rw [Bool.and_eq_true] at ho
        injection h with h2 h3
        subst h2 h3
        have e1 := dval_len (okDig_append ho.1 ho.2)
        have e3 : (t.take k.toNat ++ t.drop (k.toNat + 1)).length ≤ m := by rw [List.length_append, List.length_take, List.length_drop]; omega
        have e4 : (decDigits (10 ^ (t.length - k.toNat - 1))).length = t.length - k.toNat - 1 + 1 := by rw [dec_pow10]; simp
        exact ⟨Nat.pow_pos (by omega), by omega, by omega⟩
      · cases h
theorem fracOf_short {s : List UInt8} {n d : Nat} (hl : s.length ≤ 40) (h : fracOf s = .good n d) : 0 < d ∧ (decDigits n).length ≤ 40 ∧ (decDigits d).length ≤ 41 := by
  unfold fracOf at h
  rw [if_neg (by omega)] at h
  exact fracRead_short h (Nat.le_trans (trimPre_len s [45]) hl) (by omega)
theorem fracRes_good (p : List Int) (b : Bool) (n d : Nat) : fracRes p b (.good n d) = ofRes p (lowN (sgnd b n) d) (lowD (sgnd b n) d) := rfl

set_option maxRecDepth 100000 in
set_option maxHeartbeats 2000000 in
theorem mParse_frac (pv : Value) (p : List Int) (s : List UInt8) (w : World) (hS : Std w) (hpv : IsRow w w.heap.size pv p) (hp : primeErr p = 0) (hl : s.length ≤ 40) (hb : Lib.hasPrefix s [91] = false)
    (HO : Hid (∀ n d, fracOf s = .good n d → ∀ W, Std W → IsRow W W.heap.size pv p → Calls Tryz.prog 42 #[pv, .agg #[.string ⟨(itoa (lowN (sgnd (isNeg s) n) d)).toArray⟩, .string ⟨(itoa (lowD (sgnd (isNeg s) n) d)).toArray⟩]] W fun e w' => OPost w' (ofRes p (lowN (sgnd (isNeg s) n) d) (lowD (sgnd (isNeg s) n) d)) e ∧ Below W.heap.size W w')) :
    Calls Tryz.prog 37 #[pv, .string ⟨s.toArray⟩] w fun e w' => OPost w' (fracRes p (isNeg s) (fracOf s)) e ∧ Below w.heap.size w w' := by
  have HPC := Lib.hid (fun W h => primeCheck_any pv p W.heap.size W h)
  rw [hp] at HPC
  have HB := Lib.hid (fun W => hasPrefix_any s [91] W)
  rw [hb] at HB
  have HF := Lib.hid (fun W hW => fParse_all s W hW (by omega))
  have HNZ : Box (∀ e, fracOf s = .bad e → e ≠ 0) := ⟨fun e h => fracOf_bad h⟩
  have HS := Lib.hid hS
  have HPV := Lib.hid hpv
  obtain ⟨AP, cp, rfl, _⟩ := hpv
  clear hS hp hb
  generalize isNeg s = b at *
  generalize fracOf s = fr at *
  have hbw := Below.refl w.heap.size w
  cases fr with
  | bad er =>
    rw [frdOut_bad] at HF
    have her : (er != 0) = true := by have := HNZ.out er rfl; simpa using this
    clear HO HNZ
    go_enter Tryz.func37, Tryz.ntmps37
    go_wp2_with fail
    refine (HPC.out _ HPV.out).mono ?_
    rintro e w1 ⟨rfl, rfl⟩
    go_wp2_with fail
    refine (HB.out _).mono ?_
    rintro e wk1 ⟨rfl, hbk⟩
    replace HPV := Lib.hid (HPV.out.lift hbk)
    replace HS := Lib.hid (HS.out.below hbk (Nat.le_refl _))
    replace hbw := hbw.trans (hbk.mono hbw.size)
    clear hbk
    go_wp2_with fail
    refine (HF.out _ HS.out).mono ?_
    rintro e wk2 ⟨rfl, hbk⟩
    replace HPV := Lib.hid (HPV.out.lift hbk)
    replace HS := Lib.hid (HS.out.below hbk (Nat.le_refl _))
    replace hbw := hbw.trans (hbk.mono hbw.size)
    clear hbk
    go_wp2_with fail
    go_ret2
    exact ⟨rfl, hbw.alloc hbw.size _⟩
  | good n d =>
    rw [frdOut_good] at HF
    have HO2 := Lib.hid (HO.out n d rfl)
    clear HO HNZ
    rw [fracRes_good]
    generalize ofRes p (lowN (sgnd b n) d) (lowD (sgnd b n) d) = oR at *
    generalize itoa (lowN (sgnd b n) d) = la at *
    generalize itoa (lowD (sgnd b n) d) = lb at *
    go_enter Tryz.func37, Tryz.ntmps37
    go_wp2_with fail
    refine (HPC.out _ HPV.out).mono ?_
    rintro e w1 ⟨rfl, rfl⟩
    go_wp2_with fail
    refine (HB.out _).mono ?_
    rintro e wk3 ⟨rfl, hbk⟩
    replace HPV := Lib.hid (HPV.out.lift hbk)
    replace HS := Lib.hid (HS.out.below hbk (Nat.le_refl _))
    replace hbw := hbw.trans (hbk.mono hbw.size)
    clear hbk
    go_wp2_with fail
    refine (HF.out _ HS.out).mono ?_
    rintro e wk4 ⟨rfl, hbk⟩
    replace HPV := Lib.hid (HPV.out.lift hbk)
    replace HS := Lib.hid (HS.out.below hbk (Nat.le_refl _))
    replace hbw := hbw.trans (hbk.mono hbw.size)
    clear hbk
    go_wp2_with fail
    have hbk : Below wk4.heap.size wk4 (wk4.alloc (.cells #[.string ⟨la.toArray⟩, .string ⟨lb.toArray⟩] 39)) := (Below.refl _ _).alloc (Nat.le_refl _) _
    generalize hWQ : wk4.alloc (.cells #[.string ⟨la.toArray⟩, .string ⟨lb.toArray⟩] 39) = WQ at *
    clear hWQ
    replace HPV := Lib.hid (HPV.out.lift hbk)
    replace HS := Lib.hid (HS.out.below hbk (Nat.le_refl _))
    replace hbw := hbw.trans (hbk.mono hbw.size)
    clear hbk
    refine (HO2.out _ HS.out HPV.out).mono ?_
    rintro e w4 ⟨ho, hb4⟩
    cases oR with
    | err er =>
      obtain rfl := ho
      go_wp2_with fail
      go_ret2
      exact ⟨rfl, hbw.trans (hb4.mono hbw.size)⟩
    | row x =>
      obtain ⟨A, c, rfl, hr⟩ := ho
      have HR := Lib.hid hr
      clear hr
      go_wp2_with fail
      go_ret2
      exact ⟨⟨A, c, rfl, HR.out⟩, hbw.trans (hb4.mono hbw.size)⟩

set_option maxRecDepth 100000 in
set_option maxHeartbeats 2000000 in
theorem mParse_brack (pv : Value) (p : List Int) (s : List UInt8) (w : World) (hS : Std w) (hL : LenIs w) (hpv : IsRow w w.heap.size pv p) (hp : primeErr p = 0) (hl : s.length ≤ 40) (hb : Lib.hasPrefix s [91] = true) :
    Calls Tryz.prog 37 #[pv, .string ⟨s.toArray⟩] w fun e w' => OPost w' (rowRes p (rowRead s)) e ∧ Below w.heap.size w w' := by
  have HPC := Lib.hid (fun W h => primeCheck_any pv p W.heap.size W h)
  rw [hp] at HPC
  have HB := Lib.hid (fun W => hasPrefix_any s [91] W)
  rw [hb] at HB
  have HR := Lib.hid (fun W h1 h2 => rowParse_any s W h1 h2 (by omega))
  have HNZ : Box (∀ e, rowRead s = .bad e → e ≠ 0) := ⟨fun e h => rowRead_bad h⟩
  have HC := Lib.hid (fun xv x W h1 h2 => check_any pv xv p x W h1 h2)
  have HS := Lib.hid hS
  have HLI := Lib.hid hL
  have HPV := Lib.hid hpv
  obtain ⟨AP, cp, rfl, _⟩ := hpv
  clear hS hp hb hL
  generalize rowRead s = rr at *
  have hbw := Below.refl w.heap.size w
  cases rr with
  | bad er =>
    have her : (er != 0) = true := by have := HNZ.out er rfl; simpa using this
    clear HNZ HC
    go_enter Tryz.func37, Tryz.ntmps37
    go_wp2_with fail
    refine (HPC.out _ HPV.out).mono ?_
    rintro e w1 ⟨rfl, rfl⟩
    go_wp2_with fail
    refine (HB.out _).mono ?_
    rintro e wk5 ⟨rfl, hbk⟩
    replace HPV := Lib.hid (HPV.out.lift hbk)
    replace HS := Lib.hid (HS.out.below hbk (Nat.le_refl _))
    replace hbw := hbw.trans (hbk.mono hbw.size)
    clear hbk
    go_wp2_with fail
    refine (HR.out _ HS.out (HLI.out.below hbw)).mono ?_
    rintro e wk6 ⟨rfl, hbk⟩
    replace HPV := Lib.hid (HPV.out.lift hbk)
    replace HS := Lib.hid (HS.out.below hbk (Nat.le_refl _))
    replace hbw := hbw.trans (hbk.mono hbw.size)
    clear hbk
    go_wp2_with fail
    go_ret2
    exact ⟨rfl, hbw⟩
  | good x kt =>
    clear HNZ
    cases kt with
    | false =>
      clear HC
      go_enter Tryz.func37, Tryz.ntmps37
      go_wp2_with fail
      refine (HPC.out _ HPV.out).mono ?_
      rintro e w1 ⟨rfl, rfl⟩
      go_wp2_with fail
      refine (HB.out _).mono ?_
      rintro e wk7 ⟨rfl, hbk⟩
      replace HPV := Lib.hid (HPV.out.lift hbk)
      replace HS := Lib.hid (HS.out.below hbk (Nat.le_refl _))
      replace hbw := hbw.trans (hbk.mono hbw.size)
      clear hbk
      go_wp2_with fail
      refine (HR.out _ HS.out (HLI.out.below hbw)).mono ?_
      rintro e wk8 ⟨⟨A, c, rfl, htr⟩, hbk⟩
      replace HPV := Lib.hid (HPV.out.lift hbk)
      replace HS := Lib.hid (HS.out.below hbk (Nat.le_refl _))
      replace hbw := hbw.trans (hbk.mono hbw.size)
      clear hbk htr
      go_wp2_with fail
      go_ret2
      exact ⟨rfl, hbw⟩
    | true =>
      have HC2 := Lib.hid (fun xv W h1 h2 => HC.out xv x W h1 h2)
      have HE : Box (rowRes p (.good x true) = if chkAll p [x] = 0 then .row x else .err (chkAll p [x])) := ⟨rfl⟩
      rw [HE.out]
      generalize chkAll p [x] = ck at *
      clear HC HE
      by_cases h0 : ck = 0
      · rw [if_pos h0]
        subst h0
        go_enter Tryz.func37, Tryz.ntmps37
        go_wp2_with fail
        refine (HPC.out _ HPV.out).mono ?_
        rintro e w1 ⟨rfl, rfl⟩
        go_wp2_with fail
        refine (HB.out _).mono ?_
        rintro e wk9 ⟨rfl, hbk⟩
        replace HPV := Lib.hid (HPV.out.lift hbk)
        replace HS := Lib.hid (HS.out.below hbk (Nat.le_refl _))
        replace hbw := hbw.trans (hbk.mono hbw.size)
        clear hbk
        go_wp2_with fail
        refine (HR.out _ HS.out (HLI.out.below hbw)).mono ?_
        rintro e wk10 ⟨⟨A, c, rfl, htr⟩, hbk⟩
        replace HPV := Lib.hid (HPV.out.lift hbk)
        replace HS := Lib.hid (HS.out.below hbk (Nat.le_refl _))
        replace hbw := hbw.trans (hbk.mono hbw.size)
        have HX := Lib.hid htr.isRow
        clear hbk htr
        go_wp2_with fail
        refine (HC2.out _ _ HPV.out HX.out).mono ?_
        rintro e wk11 ⟨rfl, hbk⟩
        replace HPV := Lib.hid (HPV.out.lift hbk)
        replace HX := Lib.hid (HX.out.lift hbk)
        replace HS := Lib.hid (HS.out.below hbk (Nat.le_refl _))
        replace hbw := hbw.trans (hbk.mono hbw.size)
        clear hbk
        go_wp2_with fail
        go_ret2
        exact ⟨⟨A, c, rfl, HX.out⟩, hbw⟩
      · rw [if_neg h0]
        have hne : (ck != 0) = true := by simpa using h0
        clear h0
        go_enter Tryz.func37, Tryz.ntmps37
        go_wp2_with fail
        refine (HPC.out _ HPV.out).mono ?_
        rintro e w1 ⟨rfl, rfl⟩
        go_wp2_with fail
        refine (HB.out _).mono ?_
        rintro e wk12 ⟨rfl, hbk⟩
        replace HPV := Lib.hid (HPV.out.lift hbk)
        replace HS := Lib.hid (HS.out.below hbk (Nat.le_refl _))
        replace hbw := hbw.trans (hbk.mono hbw.size)
        clear hbk
        go_wp2_with fail
        refine (HR.out _ HS.out (HLI.out.below hbw)).mono ?_
        rintro e wk13 ⟨⟨A, c, rfl, htr⟩, hbk⟩
        replace HPV := Lib.hid (HPV.out.lift hbk)
        replace HS := Lib.hid (HS.out.below hbk (Nat.le_refl _))
        replace hbw := hbw.trans (hbk.mono hbw.size)
        have HX := Lib.hid htr.isRow
        clear hbk htr
        go_wp2_with fail
        refine (HC2.out _ _ HPV.out HX.out).mono ?_
        rintro e wk14 ⟨rfl, hbk⟩
        replace HPV := Lib.hid (HPV.out.lift hbk)
        replace HX := Lib.hid (HX.out.lift hbk)
        replace HS := Lib.hid (HS.out.below hbk (Nat.le_refl _))
        replace hbw := hbw.trans (hbk.mono hbw.size)
        clear hbk
        go_wp2_with fail
        go_ret2
        exact ⟨rfl, hbw⟩

theorem frac_of (p : List Int) (pv : Value) (s : List UInt8) (hp : primeErr p = 0) (hl : s.length ≤ 40) : ∀ n d, fracOf s = .good n d → ∀ W, Std W → IsRow W W.heap.size pv p → Calls Tryz.prog 42 #[pv, .agg #[.string ⟨(itoa (lowN (sgnd (isNeg s) n) d)).toArray⟩, .string ⟨(itoa (lowD (sgnd (isNeg s) n) d)).toArray⟩]] W fun e w' => OPost w' (ofRes p (lowN (sgnd (isNeg s) n) d) (lowD (sgnd (isNeg s) n) d)) e ∧ Below W.heap.size W w' := by
  intro n d h W hW hpv
  obtain ⟨hd0, h1, h2⟩ := fracOf_short hl h
  have hlp := low_pos (n := sgnd (isNeg s) n) (d := (d : Int)) (by omega)
  have ha : (lowN (sgnd (isNeg s) n) d).natAbs ≤ n := by
    have : (lowN (sgnd (isNeg s) n) d).natAbs ≤ (sgnd (isNeg s) n).natAbs := by
      unfold lowN
      rw [Int.natAbs_ediv_of_dvd (Int.ofNat_dvd_left.2 (Nat.gcd_dvd_left _ _)), Int.natAbs_natCast]
      exact Nat.div_le_self _ _
    rw [sgnd_abs] at this
    exact this
  have hb : (lowD (sgnd (isNeg s) n) d).natAbs ≤ d := by
    have : (lowD (sgnd (isNeg s) n) d).natAbs ≤ (d : Int).natAbs := by
      unfold lowD
      rw [Int.natAbs_ediv_of_dvd (Int.ofNat_dvd_left.2 (Nat.gcd_dvd_right _ _)), Int.natAbs_natCast]
      exact Nat.div_le_self _ _
    rw [Int.natAbs_natCast] at this
    exact this
  have ha2 := dec_le_len ha
  have hb2 := dec_le_len hb
  exact of_read pv p _ _ W hW hpv hp (by omega) (by omega) hlp.1 hlp.2

theorem head_brack {s : List UInt8} (h0 : 0 < s.length) : Lib.hasPrefix s [91] = decide (s[0]?.getD 0 = 91) := by
  cases s with
  | nil => simp at h0
  | cons c t =>
    unfold Lib.hasPrefix
    by_cases h : c = 91
    · subst h; simp [List.isPrefixOf]
    · simp [List.isPrefixOf, Ne.symm h, h]

end Go.Proofs.YtagfnnongamneaaGreatDoor
