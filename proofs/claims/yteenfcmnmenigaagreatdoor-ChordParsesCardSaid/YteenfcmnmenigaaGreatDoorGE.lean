/- prime.IsPrime, prime.Check, monzo.CheckAll, monzo.Check, monzo.result. monzo.CheckAll, monzo.Check, monzo.result. monzo.Check, monzo.result, monzo.sides, monzo.short, monzo.Fraction. monzo.sides, monzo.short, monzo.Fraction, monzo.Text. monzo.short, monzo.Fraction, fraction.Text, monzo.Text. fraction.Text, monzo.Text, monzo.height, Product, Compare, Sign. row.Check, row.Text, monzo.Brackets. monzo.exponent of short numbers; fraction.Check and Sign of right short fractions; monzo.Of of them. monzo.Of of right short fractions. -/
import Derived.Test.YteenfcmnmenigaaGreatDoorGC
import Derived.Laws.ResultCell
import Derived.Test.YteenfcmnmenigaaGreatDoorFSgG
namespace Go.Proofs.YteenfcmnmenigaaGreatDoor
open Go.RowKit Go.Lib

/-- No d from 2 on divides n, as far as d * d is at most n. -/
def noDiv (n : Int) (d : Nat) : Bool := decide (∀ e : Nat, e < 10 → d ≤ e → (e : Int) * e ≤ n → n % (e : Int) ≠ 0)
def primeB (n : Int) : Bool := decide (2 ≤ n) && decide (n ≤ 97) && noDiv n 2

set_option maxHeartbeats 400000 in
theorem isPrime_any (n : Int) (w : World) :
    Calls Tryz.prog 38 #[.int .i64 n] w fun e w' => e = .returned (.bool (primeB n)) ∧ w = w' := by
  by_cases h2 : n < 2
  · have hv : primeB n = false := by unfold primeB; rw [decide_eq_false (show ¬ 2 ≤ n by omega)]; rfl
    rw [hv]
    clear hv
    go_enter Tryz.func38, Tryz.ntmps38
    go_wp2
    go_ret
    exact ⟨rfl, rfl⟩
  · by_cases h97 : 97 < n
    · have hv : primeB n = false := by unfold primeB; rw [decide_eq_false (show ¬ n ≤ 97 by omega), Bool.and_false]; rfl
      rw [hv]
      clear hv
      go_enter Tryz.func38, Tryz.ntmps38
      go_wp2
      go_ret
      exact ⟨rfl, rfl⟩
    · have hv : primeB n = noDiv n 2 := by unfold primeB; rw [decide_eq_true (show 2 ≤ n by omega), decide_eq_true (show n ≤ 97 by omega)]; rfl
      rw [hv]
      clear hv
      go_enter Tryz.func38, Tryz.ntmps38
      go_wp2
      go_loop [3] (fun i => ∃ d : Nat, 2 ≤ d ∧ d ≤ 10 ∧ i = .int .i64 d ∧ Box (noDiv n 2 = noDiv n d)) (fun i => 10 - (intOf i).toNat)
      case atStart => exact ⟨2, by omega, by omega, rfl, ⟨rfl⟩⟩
      case round =>
        obtain ⟨d, hd2, hd10, rfl, HV⟩ := hrel
        have hdd : (d : Int) * (d : Int) ≤ 100 := by have := Nat.mul_le_mul hd10 hd10; rw [← Int.natCast_mul]; omega
        have hdd0 : 0 ≤ (d : Int) * (d : Int) := by rw [← Int.natCast_mul]; omega
        by_cases hle : (d : Int) * d ≤ n
        · have hd9 : d < 10 := by
            rcases Nat.lt_or_ge d 10 with h | h
            · exact h
            · obtain rfl : d = 10 := by omega
              simp at hle; omega
          by_cases hm : n % (d : Int) = 0
          · have HF : Box (noDiv n d = false) := ⟨by unfold noDiv; rw [decide_eq_false_iff_not]; intro h; exact h d hd9 (Nat.le_refl _) hle hm⟩
            go_wp2
            go_ret
            exact ⟨ret1 (congrArg Value.bool (HV.out.trans HF.out).symm), rfl⟩
          · have HF : Box (noDiv n d = noDiv n (d + 1)) := ⟨by
              unfold noDiv
              rw [Bool.eq_iff_iff, decide_eq_true_iff, decide_eq_true_iff]
              refine ⟨fun h e he h1 => h e he (by omega), fun h e he h1 => ?_⟩
              by_cases hed : e = d
              · subst hed; exact fun _ => hm
              · exact h e he (by omega)⟩
            have hm' : (n % (d : Int) == 0) = false := by simpa using hm
            go_wp2
            go_round
            case rel => exact ⟨d + 1, by omega, by omega, by go_num, ⟨HV.out.trans HF.out⟩⟩
            case measure => simp [intOf]; omega
        · have HF : Box (noDiv n d = true) := ⟨by
            unfold noDiv
            rw [decide_eq_true_iff]
            intro e _ h1 h3
            have : (d : Int) * d ≤ (e : Int) * e := by
              rw [← Int.natCast_mul, ← Int.natCast_mul]
              have := Nat.mul_le_mul h1 h1
              omega
            omega⟩
          go_wp2
          go_ret
          exact ⟨ret1 (congrArg Value.bool (HV.out.trans HF.out).symm), rfl⟩

/-- The error of a list of primes from a place on. -/
def pErr (prev : Option Int) : List Int → Int
  | [] => 0
  | n :: r => if primeB n = false then 25 else if (prev.any fun m => decide (n ≤ m)) = true then 6 else pErr (some n) r
def primeErr (p : List Int) : Int := if p.length = 0 then 13 else if 6 < p.length then 4 else pErr Option.none p

def prevOf (p : List Int) (k : Nat) : Option Int := if k = 0 then Option.none else some (p[k - 1]?.getD 0)

theorem pErr_step (p : List Int) (k : Nat) (hk : k < p.length) (v : Int) (hv : p[k]?.getD 0 = v) : pErr (prevOf p k) (p.drop k) = if primeB v = false then 25 else if ((prevOf p k).any fun m => decide (v ≤ m)) = true then 6 else pErr (prevOf p (k + 1)) (p.drop (k + 1)) := by
  have e : p[k] = v := by rw [← hv, List.getElem?_eq_getElem hk]; rfl
  have e2 : prevOf p (k + 1) = some v := by unfold prevOf; rw [if_neg (by omega), Nat.add_sub_cancel, hv]
  rw [List.drop_eq_getElem_cons hk, pErr, e, e2]

/-- A slice of ints that reads as a list, in a block below B. -/
def IsRow (w : World) (B : Nat) (v : Value) (x : List Int) : Prop := ∃ A c, v = .slice A x.length c ∧ x.length ≤ c ∧ c ≤ maxLen ∧ Row w B 1 A x.length (is x)

set_option maxHeartbeats 1000000 in
theorem primeCheck_any (v : Value) (p : List Int) (B : Nat) (w : World) (hv : IsRow w B v p) :
    Calls Tryz.prog 10 #[v] w fun e w' => e = .returned (.int .i64 (primeErr p)) ∧ w = w' := by
  obtain ⟨A, c, rfl, hlc, hcm, hr⟩ := hv
  by_cases h0 : p.length = 0
  · have hv : primeErr p = 13 := by unfold primeErr; rw [if_pos h0]
    rw [hv, h0]
    clear hv
    go_enter Tryz.func10, Tryz.ntmps10
    go_wp2
    go_ret
    exact ⟨rfl, rfl⟩
  · by_cases h6 : 6 < p.length
    · have hv : primeErr p = 4 := by unfold primeErr; rw [if_neg h0, if_pos h6]
      rw [hv]
      have h0' : ((p.length : Int) == 0) = false := by rw [beq_eq_false_iff_ne]; omega
      clear hv
      go_enter Tryz.func10, Tryz.ntmps10
      go_wp2
      go_ret
      exact ⟨rfl, rfl⟩
    · have hv : primeErr p = pErr (prevOf p 0) (p.drop 0) := by unfold primeErr; rw [if_neg h0, if_neg h6]; rfl
      rw [hv]
      clear hv
      have h0' : ((p.length : Int) == 0) = false := by rw [beq_eq_false_iff_ne]; omega
      go_enter Tryz.func10, Tryz.ntmps10
      go_wp2
      go_loop [15] (fun i => ∃ k : Nat, k ≤ p.length ∧ i = .int .i64 k ∧ Box (pErr (prevOf p 0) (p.drop 0) = pErr (prevOf p k) (p.drop k))) (fun i => p.length - (intOf i).toNat)
      case atStart => exact ⟨0, Nat.zero_le _, rfl, ⟨rfl⟩⟩
      case round =>
        obtain ⟨k, hk, rfl, HV⟩ := hrel
        by_cases hlt : k < p.length
        · obtain ⟨ad, rfl, _, hca⟩ := hr.i_at hlt
          have hstep := pErr_step p k hlt _ rfl
          have HPR := Lib.hid (fun W => isPrime_any (p[k]?.getD 0) W)
          generalize hx : p[k]?.getD 0 = x at *
          have HST := Lib.hid hstep
          clear hstep hx
          cases hpb : primeB x with
          | false =>
            rw [hpb] at HPR
            have HE : Box (pErr (prevOf p 0) (p.drop 0) = 25) := ⟨by rw [HV.out, HST.out, if_pos hpb]⟩
            go_wp2_with (go_at_call 38; refine (HPR.out _).mono ?_; rintro e w1 ⟨rfl, rfl⟩)
            go_ret
            exact ⟨ret_int HE.out.symm, rfl⟩
          | true =>
            rw [hpb] at HPR
            by_cases hk0 : k = 0
            · have HE : Box (pErr (prevOf p 0) (p.drop 0) = pErr (prevOf p (k + 1)) (p.drop (k + 1))) := ⟨by rw [HV.out, HST.out, if_neg (by rw [hpb]; simp), hk0]; rfl⟩
              have hk1 : ¬ 0 < k := by omega
              clear hk0
              go_wp2_with (go_at_call 38; refine (HPR.out _).mono ?_; rintro e w1 ⟨rfl, rfl⟩)
              go_round
              case rel => exact ⟨k + 1, by omega, by go_num, HE⟩
              case measure => simp [intOf]; omega
            · obtain ⟨ad', e, _, hcb⟩ := hr.i_at (k := k - 1) (by omega)
              injection e with e
              subst e
              have hpv : prevOf p k = some (p[k - 1]?.getD 0) := by unfold prevOf; rw [if_neg hk0]
              generalize hy : p[k - 1]?.getD 0 = y at *
              have HPV := Lib.hid hpv
              clear hpv hy
              by_cases hxy : x ≤ y
              · have HE : Box (pErr (prevOf p 0) (p.drop 0) = 6) := ⟨by rw [HV.out, HST.out, if_neg (by rw [hpb]; simp), HPV.out, if_pos (by simpa using hxy)]⟩
                go_wp2_with (go_at_call 38; refine (HPR.out _).mono ?_; rintro e w1 ⟨rfl, rfl⟩)
                go_ret
                exact ⟨ret_int HE.out.symm, rfl⟩
              · have HE : Box (pErr (prevOf p 0) (p.drop 0) = pErr (prevOf p (k + 1)) (p.drop (k + 1))) := ⟨by rw [HV.out, HST.out, if_neg (by rw [hpb]; simp), HPV.out, if_neg (by simpa using hxy)]⟩
                go_wp2_with (go_at_call 38; refine (HPR.out _).mono ?_; rintro e w1 ⟨rfl, rfl⟩)
                go_round
                case rel => exact ⟨k + 1, by omega, by go_num, HE⟩
                case measure => simp [intOf]; omega
        · obtain rfl : k = p.length := by omega
          have HE : Box (pErr (prevOf p 0) (p.drop 0) = 0) := ⟨by rw [HV.out, List.drop_of_length_le (Nat.le_refl _)]; rfl⟩
          go_wp2
          go_ret
          exact ⟨ret_int HE.out.symm, rfl⟩

end Go.Proofs.YteenfcmnmenigaaGreatDoor

namespace Go.Proofs.YteenfcmnmenigaaGreatDoor
open Go.RowKit Go.Lib

def farB (v : Int) : Bool := decide (1000 < v) || decide (v < -1000)
def rowErr (n : Nat) (x : List Int) : Int := if x.length ≠ n then 5 else if x.any farB = true then 4 else 0
def rowsErr (n : Nat) : List (List Int) → Int
  | [] => 0
  | x :: r => if rowErr n x ≠ 0 then rowErr n x else rowsErr n r
def chkAll (p : List Int) (l : List (List Int)) : Int := if primeErr p ≠ 0 then primeErr p else rowsErr p.length l

theorem rowsErr_step (n : Nat) (l : List (List Int)) (k : Nat) (x : List Int) (hx : l[k]? = some x) : rowsErr n (l.drop k) = if rowErr n x ≠ 0 then rowErr n x else rowsErr n (l.drop (k + 1)) := by
  obtain ⟨hk, e⟩ := List.getElem?_eq_some_iff.1 hx
  rw [List.drop_eq_getElem_cons hk, rowsErr, e]

/-- A slice of rows: its cells are the values vs, each a row of ints. -/
structure RowsAt (w : World) (B : Nat) (A : Option Addr) (l : List (List Int)) : Prop where
  get : ∀ k x, l[k]? = some x → ∃ ad v, A = some ad ∧ ad.block < B ∧ w.cell? (ad.add k) = some v ∧ IsRow w B v x

set_option maxHeartbeats 1000000 in
theorem checkAll_any (pv : Value) (p : List Int) (A : Option Addr) (c B : Nat) (l : List (List Int)) (w : World) (hp : IsRow w B pv p) (hl : RowsAt w B A l) (hlm : l.length ≤ 1000000) :
    Calls Tryz.prog 36 #[pv, .slice A l.length c] w fun e w' => e = .returned (.int .i64 (chkAll p l)) ∧ w = w' := by
  have HPC := Lib.hid (primeCheck_any pv p B w hp)
  obtain ⟨AP, cp, rfl, hpc, hpm, hpr⟩ := hp
  unfold maxLen at hpm
  have hpl : p.length ≤ 9223372036854775807 := by omega
  clear hpc hpm hpr
  by_cases hpe : primeErr p = 0
  · rw [hpe] at HPC
    have hv : chkAll p l = rowsErr p.length (l.drop 0) := by unfold chkAll; rw [if_neg (by simp [hpe])]; rfl
    rw [hv]
    clear hv hpe
    go_enter Tryz.func36, Tryz.ntmps36
    go_wp2_with (go_at_call 10; refine HPC.out.mono ?_; rintro e w1 ⟨rfl, rfl⟩)
    go_loop [17] (fun i => ∃ k : Nat, k ≤ l.length ∧ i = .int .i64 k ∧ Box (rowsErr p.length (l.drop 0) = rowsErr p.length (l.drop k))) (fun i => l.length - (intOf i).toNat)
    case atStart => exact ⟨0, Nat.zero_le _, rfl, ⟨rfl⟩⟩
    case round =>
      obtain ⟨k, hk, rfl, HV⟩ := hrel
      by_cases hlt : k < l.length
      · obtain ⟨ad, v, rfl, _, hca, A2, c2, rfl, hc2, hm2, hr2⟩ := hl.get k l[k] (List.getElem?_eq_getElem hlt)
        have HST := Lib.hid (rowsErr_step p.length l k l[k] (List.getElem?_eq_getElem hlt))
        generalize l[k] = x at *
        have HR : Hid (rowErr p.length x = if x.length ≠ p.length then 5 else if x.any farB = true then 4 else 0) := rfl
        unfold maxLen at hm2
        have hxl : x.length ≤ 9223372036854775807 := by omega
        clear hm2 hc2
        by_cases hxn : x.length = p.length
        · have hne : ((x.length : Int) != (p.length : Int)) = false := by simp [hxn]
          have HXN := Lib.hid hxn
          clear hxn
          go_wp2
          go_loop [28] (fun i => ∃ j : Nat, j ≤ x.length ∧ i = .int .i64 j ∧ Box ((x.take j).any farB = false)) (fun i => x.length - (intOf i).toNat)
          case atStart => exact ⟨0, Nat.zero_le _, rfl, ⟨rfl⟩⟩
          case round =>
            obtain ⟨j, hj, rfl, HF⟩ := hrel
            by_cases hjl : j < x.length
            · obtain ⟨ad2, rfl, _, hcb⟩ := hr2.i_at hjl
              have hs : (x.take (j + 1)).any farB = ((x.take j).any farB || farB (x[j]?.getD 0)) := by
                rw [List.take_succ_eq_append_getElem hjl, List.any_append, List.getElem?_eq_getElem hjl]; simp
              have hf : farB (x[j]?.getD 0) = true → x.any farB = true := by
                intro h
                rw [List.any_eq_true]
                exact ⟨x[j], List.getElem_mem hjl, by rw [List.getElem?_eq_getElem hjl] at h; simpa using h⟩
              have hfb : farB (x[j]?.getD 0) = (decide (1000 < x[j]?.getD 0) || decide (x[j]?.getD 0 < -1000)) := rfl
              generalize x[j]?.getD 0 = y at *
              have HS := Lib.hid hs
              have HF2 := Lib.hid hf
              have HFB := Lib.hid hfb
              clear hs hf hfb
              by_cases hy1 : 1000 < y
              · have HE : Box (rowsErr p.length (l.drop 0) = 4) := ⟨by
                  have : rowErr p.length x = 4 := by rw [HR.out, if_neg (by simp [HXN.out]), if_pos (HF2.out (by rw [HFB.out]; simp [hy1]))]
                  rw [HV.out, HST.out, this]; rfl⟩
                go_wp2
                go_ret
                exact ⟨ret_int HE.out.symm, rfl⟩
              · by_cases hy2 : y < -1000
                · have HE : Box (rowsErr p.length (l.drop 0) = 4) := ⟨by
                    have : rowErr p.length x = 4 := by rw [HR.out, if_neg (by simp [HXN.out]), if_pos (HF2.out (by rw [HFB.out]; simp [hy2]))]
                    rw [HV.out, HST.out, this]; rfl⟩
                  go_wp2
                  go_ret
                  exact ⟨ret_int HE.out.symm, rfl⟩
                · go_wp2
                  go_round
                  case rel => exact ⟨j + 1, by omega, by go_num, ⟨by rw [HS.out, HF.out, HFB.out]; simp [hy1, hy2]⟩⟩
                  case measure => simp [intOf]; omega
            · obtain rfl : j = x.length := by omega
              have HE : Box (rowsErr p.length (l.drop 0) = rowsErr p.length (l.drop (k + 1))) := ⟨by
                have h := HF.out
                rw [List.take_of_length_le (Nat.le_refl _)] at h
                have : rowErr p.length x = 0 := by rw [HR.out, if_neg (by simp [HXN.out]), if_neg (by simp [h])]
                rw [HV.out, HST.out, this]; rfl⟩
              go_wp2
              go_round
              case rel => exact ⟨k + 1, by omega, by go_num, HE⟩
              case measure => simp [intOf]; omega
        · have hne : ((x.length : Int) != (p.length : Int)) = true := by rw [bne_iff_ne]; omega
          have HE : Box (rowsErr p.length (l.drop 0) = 5) := ⟨by
            have : rowErr p.length x = 5 := by rw [HR.out, if_pos hxn]
            rw [HV.out, HST.out, this]; rfl⟩
          go_wp2
          go_ret
          exact ⟨ret_int HE.out.symm, rfl⟩
      · obtain rfl : k = l.length := by omega
        have HE : Box (rowsErr p.length (l.drop 0) = 0) := ⟨by rw [HV.out, List.drop_of_length_le (Nat.le_refl _)]; rfl⟩
        go_wp2
        go_ret
        exact ⟨ret_int HE.out.symm, rfl⟩
  · have hv : chkAll p l = primeErr p := by unfold chkAll; rw [if_pos hpe]
    rw [hv]
    clear hv
    have hpb : (primeErr p != 0) = true := by rw [bne_iff_ne]; exact hpe
    generalize primeErr p = q at *
    go_enter Tryz.func36, Tryz.ntmps36
    go_wp2_with (go_at_call 10; refine HPC.out.mono ?_; rintro e w1 ⟨rfl, rfl⟩)
    go_ret
    exact ⟨rfl, rfl⟩

end Go.Proofs.YteenfcmnmenigaaGreatDoor

namespace Go.Proofs.YteenfcmnmenigaaGreatDoor
open Go.RowKit Go.Lib

theorem IsRow.keep {w w' : World} {B : Nat} {v : Value} {x : List Int} (h : IsRow w B v x) (hb : Below B w w') : IsRow w' B v x := by
  obtain ⟨A, c, e, h1, h2, hr⟩ := h
  exact ⟨A, c, e, h1, h2, hr.below hb (Nat.le_refl _)⟩
theorem IsRow.up {w : World} {B B' : Nat} {v : Value} {x : List Int} (h : IsRow w B v x) (hB : B ≤ B') : IsRow w B' v x := by
  obtain ⟨A, c, e, h1, h2, hr⟩ := h
  exact ⟨A, c, e, h1, h2, hr.up hB⟩
theorem IsRow.alloc {w : World} {B : Nat} {v : Value} {x : List Int} (h : IsRow w B v x) (hB : B ≤ w.heap.size) (o : Obj) : IsRow (w.alloc o) B v x := by
  obtain ⟨A, c, e, h1, h2, hr⟩ := h
  exact ⟨A, c, e, h1, h2, hr.alloc hB o⟩
theorem IsRow.lift {w w' : World} {v : Value} {x : List Int} (h : IsRow w w.heap.size v x) (hb : Below w.heap.size w w') : IsRow w' w'.heap.size v x := (h.keep hb).up hb.size

theorem rowsAt_one (w : World) (v : Value) (x : List Int) (t : TypeId) (hv : IsRow w w.heap.size v x) : RowsAt (w.alloc (.cells #[v] t)) (w.heap.size + 1) (some ⟨w.heap.size, 0, Option.none⟩) [x] := by
  refine ⟨fun k y hy => ?_⟩
  match k, hy with
  | 0, hy =>
    simp at hy
    subst hy
    exact ⟨_, v, rfl, by simp, by rw [addr0, World.cell?_alloc_new]; rfl, (hv.alloc (Nat.le_refl _) _).up (by omega)⟩
theorem rowsAt_two (w : World) (v u : Value) (x y : List Int) (t : TypeId) (hv : IsRow w w.heap.size v x) (hu : IsRow w w.heap.size u y) : RowsAt (w.alloc (.cells #[v, u] t)) (w.heap.size + 1) (some ⟨w.heap.size, 0, Option.none⟩) [x, y] := by
  refine ⟨fun k z hz => ?_⟩
  match k, hz with
  | 0, hz =>
    simp at hz
    subst hz
    exact ⟨_, v, rfl, by simp, by rw [addr0, World.cell?_alloc_new]; rfl, (hv.alloc (Nat.le_refl _) _).up (by omega)⟩
  | 1, hz =>
    simp at hz
    subst hz
    exact ⟨_, u, rfl, by simp, by rw [addr0, World.cell?_alloc_new]; rfl, (hu.alloc (Nat.le_refl _) _).up (by omega)⟩

set_option maxHeartbeats 400000 in
theorem check_any (pv xv : Value) (p x : List Int) (w : World) (hp : IsRow w w.heap.size pv p) (hx : IsRow w w.heap.size xv x) :
    Calls Tryz.prog 11 #[pv, xv] w fun e w' => e = .returned (.int .i64 (chkAll p [x])) ∧ Below w.heap.size w w' := by
  have HC := Lib.hid (checkAll_any pv p (some ⟨w.heap.size, 0, Option.none⟩) 1 (w.heap.size + 1) [x] (w.alloc (.cells #[xv] 31)) ((hp.alloc (Nat.le_refl _) _).up (by omega)) (rowsAt_one w xv x _ hx) (by simp))
  obtain ⟨AP, cp, rfl, _⟩ := hp
  obtain ⟨AX, cx, rfl, _⟩ := hx
  go_enter Tryz.func11, Tryz.ntmps11
  go_wp2_with (go_at_call 36; refine HC.out.mono ?_; rintro e w1 ⟨rfl, rfl⟩)
  go_ret
  exact ⟨rfl, (Below.refl _ _).alloc (Nat.le_refl _) _⟩

set_option maxHeartbeats 400000 in
theorem result_yes (pv xv : Value) (p x : List Int) (w : World) (hp : IsRow w w.heap.size pv p) (hx : IsRow w w.heap.size xv x) (h : chkAll p [x] = 0) :
    Calls Tryz.prog 111 #[pv, xv] w fun e w' => e = .returned (.tuple #[xv, .int .i64 0]) ∧ Below w.heap.size w w' := by
  have HC := Lib.hid (checkAll_any pv p (some ⟨w.heap.size, 0, Option.none⟩) 1 (w.heap.size + 1) [x] (w.alloc (.cells #[xv] 31)) ((hp.alloc (Nat.le_refl _) _).up (by omega)) (rowsAt_one w xv x _ hx) (by simp))
  rw [h] at HC
  clear h
  obtain ⟨AP, cp, rfl, _⟩ := hp
  obtain ⟨AX, cx, rfl, _⟩ := hx
  go_enter Tryz.func111, Tryz.ntmps111
  go_wp2_with (go_at_call 36; refine HC.out.mono ?_; rintro e w1 ⟨rfl, rfl⟩)
  go_ret2
  exact ⟨rfl, (Below.refl _ _).alloc (Nat.le_refl _) _⟩

set_option maxHeartbeats 400000 in
theorem result_no (pv xv : Value) (p x : List Int) (w : World) (hp : IsRow w w.heap.size pv p) (hx : IsRow w w.heap.size xv x) (h : (chkAll p [x] != 0) = true) :
    Calls Tryz.prog 111 #[pv, xv] w fun e w' => e = .returned (.tuple #[.slice Option.none 0 0, .int .i64 4]) ∧ Below w.heap.size w w' := by
  have HC := Lib.hid (checkAll_any pv p (some ⟨w.heap.size, 0, Option.none⟩) 1 (w.heap.size + 1) [x] (w.alloc (.cells #[xv] 31)) ((hp.alloc (Nat.le_refl _) _).up (by omega)) (rowsAt_one w xv x _ hx) (by simp))
  generalize chkAll p [x] = q at *
  obtain ⟨AP, cp, rfl, _⟩ := hp
  obtain ⟨AX, cx, rfl, _⟩ := hx
  go_enter Tryz.func111, Tryz.ntmps111
  go_wp2_with (go_at_call 36; refine HC.out.mono ?_; rintro e w1 ⟨rfl, rfl⟩)
  go_ret2
  exact ⟨rfl, (Below.refl _ _).alloc (Nat.le_refl _) _⟩

/-! ### Right intervals -/

/-- A right list of primes with a right interval, as numbers. -/
structure Right (p x : List Int) : Prop where
  len : x.length = p.length
  six : p.length ≤ 6
  pr : ∀ k, k < p.length → 2 ≤ p[k]?.getD 0 ∧ p[k]?.getD 0 ≤ 97
  ex : ∀ k, k < x.length → -1000 ≤ x[k]?.getD 0 ∧ x[k]?.getD 0 ≤ 1000

theorem pErr_zero : ∀ (l : List Int) (prev : Option Int), pErr prev l = 0 → ∀ v ∈ l, primeB v = true
  | [], _, _, v, hv => by simp at hv
  | n :: r, prev, h, v, hv => by
    rw [pErr] at h
    by_cases hp : primeB n = false
    · rw [if_pos hp] at h; omega
    · rw [if_neg hp] at h
      split at h
      · omega
      · rcases List.mem_cons.1 hv with rfl | hv
        · simpa using hp
        · exact pErr_zero r _ h v hv

theorem right_primes {p : List Int} (h : primeErr p = 0) : p.length ≤ 6 ∧ 1 ≤ p.length ∧ ∀ k, k < p.length → 2 ≤ p[k]?.getD 0 ∧ p[k]?.getD 0 ≤ 97 := by
  unfold primeErr at h
  split at h
  · omega
  · split at h
    · omega
    · refine ⟨by omega, by omega, fun k hk => ?_⟩
      have := pErr_zero p _ h p[k] (List.getElem_mem hk)
      unfold primeB at this
      rw [Bool.and_eq_true, Bool.and_eq_true, decide_eq_true_iff, decide_eq_true_iff] at this
      rw [List.getElem?_eq_getElem hk]
      exact this.1

theorem rowErr_zero {n : Nat} {x : List Int} (h : rowErr n x = 0) : x.length = n ∧ ∀ k, k < x.length → -1000 ≤ x[k]?.getD 0 ∧ x[k]?.getD 0 ≤ 1000 := by
  unfold rowErr at h
  split at h
  · omega
  · split at h
    · omega
    · rename_i h1 h2
      refine ⟨by omega, fun k hk => ?_⟩
      have h3 : ¬ farB x[k] = true := fun hf => h2 (List.any_eq_true.2 ⟨_, List.getElem_mem hk, hf⟩)
      unfold farB at h3
      simp at h3
      rw [List.getElem?_eq_getElem hk]
      simp
      omega

theorem right_of {p x : List Int} (h : chkAll p [x] = 0) : Right p x := by
  unfold chkAll at h
  by_cases hp : primeErr p = 0
  · rw [if_neg (by simpa using hp), rowsErr] at h
    have hr : rowErr p.length x = 0 := by
      by_cases hr : rowErr p.length x = 0
      · exact hr
      · rw [if_pos hr] at h; exact h
    obtain ⟨h1, _, h2⟩ := right_primes hp
    obtain ⟨h3, h4⟩ := rowErr_zero hr
    exact ⟨h3, h1, h2, h4⟩
  · rw [if_pos hp] at h
    exact absurd h hp

end Go.Proofs.YteenfcmnmenigaaGreatDoor

namespace Go.Proofs.YteenfcmnmenigaaGreatDoor
open Go.RowKit Go.Lib

/-- Numerator and denominator of the first k exponents. -/
def numTo (p x : List Int) : Nat → Nat
  | 0 => 1
  | k + 1 => if 0 < x[k]?.getD 0 then numTo p x k * (p[k]?.getD 0).toNat ^ (x[k]?.getD 0).natAbs else numTo p x k
def denTo (p x : List Int) : Nat → Nat
  | 0 => 1
  | k + 1 => if 0 < x[k]?.getD 0 then denTo p x k else denTo p x k * (p[k]?.getD 0).toNat ^ (x[k]?.getD 0).natAbs
def num (p x : List Int) : Nat := numTo p x x.length
def den (p x : List Int) : Nat := denTo p x x.length

theorem dec_mul_len (a b : Nat) : (decDigits (a * b)).length ≤ (decDigits a).length + (decDigits b).length := by
  rw [dec_length (a * b)]
  have h1 := dec_lt_pow a
  have h2 := dec_lt_pow b
  have hp : 1 ≤ (decDigits a).length := by rw [dec_length]; exact nDigits_pos a
  refine nDigits_le (by omega) ?_
  rw [Nat.pow_add]
  exact Nat.mul_lt_mul'' h1 h2

theorem to_len {p x : List Int} (h : Right p x) (k : Nat) (hk : k ≤ x.length) : (decDigits (numTo p x k)).length ≤ 1 + 2001 * k ∧ (decDigits (denTo p x k)).length ≤ 1 + 2001 * k := by
  induction k with
  | zero => rw [numTo, denTo, dec_small (by omega)]; simp
  | succ k ih =>
    obtain ⟨h1, h2⟩ := ih (by omega)
    have hp := h.pr k (by rw [← h.len]; omega)
    have hx := h.ex k (by omega)
    have h3 := pow_digits (a := (p[k]?.getD 0).toNat) (n := (x[k]?.getD 0).natAbs) (by omega) (by omega)
    rw [numTo, denTo]
    have h4 := dec_mul_len (numTo p x k) ((p[k]?.getD 0).toNat ^ (x[k]?.getD 0).natAbs)
    have h5 := dec_mul_len (denTo p x k) ((p[k]?.getD 0).toNat ^ (x[k]?.getD 0).natAbs)
    split
    · omega
    · omega

set_option maxHeartbeats 1000000 in
theorem sides_any (pv xv : Value) (p x : List Int) (w : World) (hS : Std w) (hp : IsRow w w.heap.size pv p) (hx : IsRow w w.heap.size xv x) (h : Right p x) :
    Calls Tryz.prog 72 #[pv, xv] w fun e w' => e = .returned (.tuple #[.string ⟨(decDigits (num p x)).toArray⟩, .string ⟨(decDigits (den p x)).toArray⟩]) ∧ Below w.heap.size w w' := by
  have hl := h.len
  have h6 := h.six
  obtain ⟨AP, cp, rfl, hpc, hpm, hpr⟩ := hp
  obtain ⟨AX, cx, rfl, hxc, hxm, hxr⟩ := hx
  have HS := Lib.hid hS
  have HL := Lib.hid hl
  have hx6 : x.length ≤ 6 := by omega
  clear hS hl hpm hxm
  have HST : Box (decDigits 1 = [49]) := ⟨by rw [dec_small (by omega)]; rfl⟩
  go_enter Tryz.func72, Tryz.ntmps72
  go_wp2
  go_loopw [4, 5, 12] (fun a b i wr => ∃ k : Nat, k ≤ x.length ∧ i = .int .i64 k ∧ a = .string ⟨(decDigits (numTo p x k)).toArray⟩ ∧ b = .string ⟨(decDigits (denTo p x k)).toArray⟩ ∧ Below w.heap.size w wr) (fun _ _ i _ => x.length - (intOf i).toNat)
  case atStart => exact ⟨0, Nat.zero_le _, rfl, by rw [numTo, HST.out], by rw [denTo, HST.out], Below.refl _ _⟩
  case round =>
    obtain ⟨k, hk, rfl, rfl, rfl, hbw⟩ := hrel
    by_cases hlt : k < x.length
    · obtain ⟨adx, rfl, _, hcx⟩ := (hxr.below hbw (Nat.le_refl _)).i_at hlt
      obtain ⟨adp, rfl, _, hcp⟩ := (hpr.below hbw (Nat.le_refl _)).i_at (k := k) (by rw [← HL.out]; exact hlt)
      have hkp : k < p.length := by rw [← HL.out]; exact hlt
      have hpk := h.pr k hkp
      have hxk := h.ex k hlt
      have htl := to_len h k (by omega)
      have hn : numTo p x (k + 1) = if 0 < x[k]?.getD 0 then numTo p x k * (p[k]?.getD 0).toNat ^ (x[k]?.getD 0).natAbs else numTo p x k := rfl
      have hd : denTo p x (k + 1) = if 0 < x[k]?.getD 0 then denTo p x k else denTo p x k * (p[k]?.getD 0).toNat ^ (x[k]?.getD 0).natAbs := rfl
      generalize x[k]?.getD 0 = y at *
      generalize p[k]?.getD 0 = q0 at *
      obtain ⟨q, rfl⟩ : ∃ q : Nat, q0 = (q : Int) := ⟨q0.toNat, by omega⟩
      rw [Int.toNat_natCast] at hn hd
      have hpd := pow_digits (a := q) (n := y.natAbs) (by omega) (by omega)
      have HO := Lib.hid (fun W (hW : Std W) => decOf_any q W (by omega) hW)
      have HP := Lib.hid (fun W => power_any q y.natAbs W (by omega) (by omega) (by omega))
      have HMN := Lib.hid (fun W (hW : Std W) => mul_any (numTo p x k) (q ^ y.natAbs) W hW (by omega) (by omega))
      have HMD := Lib.hid (fun W (hW : Std W) => mul_any (denTo p x k) (q ^ y.natAbs) W hW (by omega) (by omega))
      have hSr := HS.out.below hbw (Nat.le_refl _)
      have HSR := Lib.hid hSr
      have HN := Lib.hid hn
      have HD := Lib.hid hd
      clear hn hd htl hpd hSr
      have hmax : max y (-y) = ((y.natAbs : Nat) : Int) := by omega
      have HMX := Lib.hid hmax
      clear hmax
      by_cases hy : 0 < y
      · rw [if_pos hy] at HN HD
        go_wp2_with fail
        refine (HO.out _ HSR.out).mono ?_
        rintro e w1 ⟨rfl, hb1⟩
        go_wp2_with fail
        rw [HMX.out]
        refine (HP.out _).mono ?_
        rintro e w2 ⟨rfl, hb2⟩
        go_wp2_with fail
        refine (HMN.out _ ((HSR.out.below hb1 (Nat.le_refl _)).below hb2 (Nat.le_refl _))).mono ?_
        rintro e w3 ⟨rfl, hb3⟩
        go_wp2_with fail
        go_roundw
        case rel =>
          have h12 := hb1.trans (hb2.mono hb1.size)
          have h13 := h12.trans (hb3.mono h12.size)
          exact ⟨k + 1, by omega, by go_num, by rw [HN.out], by rw [HD.out], hbw.trans (h13.mono hbw.size)⟩
        case measure => simp [intOf]; omega
      · rw [if_neg hy] at HN HD
        go_wp2_with fail
        refine (HO.out _ HSR.out).mono ?_
        rintro e w1 ⟨rfl, hb1⟩
        go_wp2_with fail
        rw [HMX.out]
        refine (HP.out _).mono ?_
        rintro e w2 ⟨rfl, hb2⟩
        go_wp2_with fail
        refine (HMD.out _ ((HSR.out.below hb1 (Nat.le_refl _)).below hb2 (Nat.le_refl _))).mono ?_
        rintro e w3 ⟨rfl, hb3⟩
        go_wp2_with fail
        go_roundw
        case rel =>
          have h12 := hb1.trans (hb2.mono hb1.size)
          have h13 := h12.trans (hb3.mono h12.size)
          exact ⟨k + 1, by omega, by go_num, by rw [HN.out], by rw [HD.out], hbw.trans (h13.mono hbw.size)⟩
        case measure => simp [intOf]; omega
    · obtain rfl : k = x.length := by omega
      go_wp2
      go_ret2
      exact ⟨rfl, hbw⟩

end Go.Proofs.YteenfcmnmenigaaGreatDoor

namespace Go.Proofs.YteenfcmnmenigaaGreatDoor
open Go.RowKit Go.Lib

/-- What Fraction returns for two numbers: the fraction, or the error. -/
def fracOut (a b : List UInt8) : Value := if a.length ≤ 400 ∧ b.length ≤ 400 then .tuple #[.agg #[.string ⟨a.toArray⟩, .string ⟨b.toArray⟩], .int .i64 0] else .tuple #[.agg #[.string ⟨#[]⟩, .string ⟨#[]⟩], .int .i64 4]

/-- The two cells of a result that lies in memory. -/
theorem two_below {w w' : World} {a b : Value} {t : TypeId} (hb : Below (w.heap.size + 1) (w.alloc (.cells #[a, b] t)) w') :
    w'.cell? ⟨w.heap.size, 0, Option.none⟩ = some a ∧ w'.cell? ⟨w.heap.size, 1, Option.none⟩ = some b ∧ w'.frozen? ⟨w.heap.size, 0, Option.none⟩ = false ∧ w'.frozen? ⟨w.heap.size, 1, Option.none⟩ = false ∧ w.heap.size < w'.heap.size := by
  refine ⟨?_, ?_, ?_, ?_, ?_⟩
  · rw [hb.cell (p := ⟨w.heap.size, 0, Option.none⟩) (by simp), World.cell?_alloc_new]; rfl
  · rw [hb.cell (p := ⟨w.heap.size, 1, Option.none⟩) (by simp), World.cell?_alloc_new]; rfl
  · rw [hb.frozen (p := ⟨w.heap.size, 0, Option.none⟩) (by simp), World.frozen?_alloc_new]
  · rw [hb.frozen (p := ⟨w.heap.size, 1, Option.none⟩) (by simp), World.frozen?_alloc_new]
  · have := hb.size; simp at this; omega

theorem below_result {w w1 : World} {o : Obj} (hb : Below (w.heap.size + 1) (w.alloc o) w1) : Below w.heap.size w w1 := ((Below.refl _ _).alloc (Nat.le_refl _) o).trans (hb.mono (by omega))

end Go.Proofs.YteenfcmnmenigaaGreatDoor

namespace Go.Proofs.YteenfcmnmenigaaGreatDoor
open Go.RowKit Go.Lib

theorem num_len {p x : List Int} (h : Right p x) : (decDigits (num p x)).length ≤ 15000 ∧ (decDigits (den p x)).length ≤ 15000 := by
  have h1 := to_len h x.length (Nat.le_refl _)
  have h2 := h.len
  have h3 := h.six
  unfold num den
  omega

/-- The text of a fraction. -/
def ratText (a b : List UInt8) : List UInt8 := if (b == [49]) = true then a else a ++ 47 :: b

theorem IsRow.shape {w : World} {B : Nat} {v : Value} {x : List Int} (h : IsRow w B v x) : ∃ A c, v = .slice A x.length c := by
  obtain ⟨A, c, e, _⟩ := h
  exact ⟨A, c, e⟩

/-! ### Heights -/

/-- What short returns. -/
def shortOut (a : List UInt8) : Value := if a.length ≤ 400 then .tuple #[.string ⟨a.toArray⟩, .int .i64 0] else .tuple #[.string ⟨#[]⟩, .int .i64 4]

theorem shortOut_two (r : List UInt8) : ∃ a e, shortOut r = .tuple #[a, e] := by
  unfold shortOut
  split
  · exact ⟨_, _, rfl⟩
  · exact ⟨_, _, rfl⟩

/-! ### Orders -/

theorem chk_two {p x y : List Int} (h : chkAll p [x, y] = 0) : chkAll p [x] = 0 ∧ chkAll p [y] = 0 := by
  unfold chkAll at *
  by_cases hp : primeErr p = 0
  · rw [if_neg (by simpa using hp)] at h ⊢
    rw [if_neg (by simpa using hp)]
    simp only [rowsErr] at *
    by_cases h1 : rowErr p.length x = 0
    · rw [if_neg (by simpa using h1)] at h ⊢
      exact ⟨rfl, h⟩
    · rw [if_pos h1] at h
      exact absurd h h1
  · rw [if_pos hp] at h
    exact absurd h hp

set_option maxHeartbeats 1000000 in
theorem compare_mon (pv xv yv : Value) (p x y : List Int) (w : World) (hp : IsRow w w.heap.size pv p) (hx : IsRow w w.heap.size xv x) (hy : IsRow w w.heap.size yv y) (h : chkAll p [x, y] = 0) (hS : Std w) :
    Calls Tryz.prog 42 #[pv, xv, yv] w fun e w' => e = .returned (.tuple #[.int .i64 (cmpN (num p x * den p y) (num p y * den p x)), .int .i64 0]) ∧ Below w.heap.size w w' := by
  obtain ⟨hcx, hcy⟩ := chk_two h
  have hrx := right_of hcx
  have hry := right_of hcy
  have hlx := num_len hrx
  have hly := num_len hry
  have hm1 := dec_mul_len (num p x) (den p y)
  have hm2 := dec_mul_len (num p y) (den p x)
  have HC := Lib.hid (checkAll_any pv p (some ⟨w.heap.size, 0, Option.none⟩) 2 (w.heap.size + 1) [x, y] (w.alloc (.cells #[xv, yv] 31)) ((hp.alloc (Nat.le_refl _) _).up (by omega)) (rowsAt_two w xv yv x y _ hx hy) (by simp))
  rw [h] at HC
  have HDX := Lib.hid (fun W h1 h2 h3 => sides_any pv xv p x W h3 h1 h2 hrx)
  have HDY := Lib.hid (fun W h1 h2 h3 => sides_any pv yv p y W h3 h1 h2 hry)
  have HM1 := Lib.hid (fun W hW => mul_any (num p x) (den p y) W hW (by omega) (by omega))
  have HM2 := Lib.hid (fun W hW => mul_any (num p y) (den p x) W hW (by omega) (by omega))
  have HCM := Lib.hid (fun W => compare_any (num p x * den p y) (num p y * den p x) W (by omega) (by omega))
  have HP := Lib.hid hp
  have HX := Lib.hid hx
  have HY := Lib.hid hy
  have HS := Lib.hid hS
  clear h hS hrx hry hlx hly hm1 hm2 hcx hcy
  obtain ⟨AP, cp, rfl, _⟩ := hp
  obtain ⟨AX, cx, rfl, _⟩ := hx
  obtain ⟨AY, cy, rfl, _⟩ := hy
  go_enter Tryz.func42, Tryz.ntmps42
  go_wp2_with fail
  refine HC.out.mono ?_
  rintro e w1 ⟨rfl, hw1⟩
  have hb1 : Below w.heap.size w w1 := by rw [← hw1]; exact (Below.refl _ _).alloc (Nat.le_refl _) _
  clear hw1
  go_wp2_with fail
  have hs1 := HS.out.below hb1 (Nat.le_refl _)
  refine (HDX.out _ (HP.out.lift hb1) (HX.out.lift hb1) hs1).mono ?_
  rintro e w2 ⟨rfl, hb2⟩
  go_wp2_with fail
  have hs2 := hs1.below hb2 (Nat.le_refl _)
  have h12 := hb1.trans (hb2.mono hb1.size)
  refine (HDY.out _ (HP.out.lift h12) (HY.out.lift h12) hs2).mono ?_
  rintro e w3 ⟨rfl, hb3⟩
  go_wp2_with fail
  have hs3 := hs2.below hb3 (Nat.le_refl _)
  refine (HM1.out _ hs3).mono ?_
  rintro e w4 ⟨rfl, hb4⟩
  go_wp2_with fail
  have hs4 := hs3.below hb4 (Nat.le_refl _)
  refine (HM2.out _ hs4).mono ?_
  rintro e w5 ⟨rfl, hb5⟩
  go_wp2_with fail
  refine (HCM.out _).mono ?_
  rintro e w6 ⟨rfl, rfl⟩
  go_wp2_with fail
  go_ret2
  have h13 := h12.trans (hb3.mono h12.size)
  have h14 := h13.trans (hb4.mono h13.size)
  exact ⟨rfl, h14.trans (hb5.mono h14.size)⟩

end Go.Proofs.YteenfcmnmenigaaGreatDoor

namespace Go.Proofs.YteenfcmnmenigaaGreatDoor
open Go.RowKit Go.Lib

def fitsB (v : Int) : Bool := decide (-1000000000 ≤ v) && decide (v ≤ 1000000000)

theorem addr_plain {w : World} {ad : Addr} {v : Value} (h : w.cell? ad = some v) : ∃ b o, ad = ⟨b, o, Option.none⟩ := by
  obtain ⟨b, o, s⟩ := ad
  have hs : s = Option.none := World.cell?_spot h
  subst hs
  exact ⟨b, o, rfl⟩

theorem Row.plain {w : World} {B n : Nat} {A : Option Addr} {x : List Int} (h : Row w B 1 A n (is x)) (hn : 0 < n) : ∃ b o, A = some ⟨b, o, Option.none⟩ ∧ b < B ∧ ∀ k, k < n → w.cell? ⟨b, o + k, Option.none⟩ = some (.int .i64 (x[k]?.getD 0)) := by
  obtain ⟨ad, rfl, hb, hc⟩ := h.i_at hn
  have hz : ad.add 0 = ad := by unfold Addr.add; simp
  rw [hz] at hc
  obtain ⟨b, o, rfl⟩ := addr_plain hc
  refine ⟨b, o, rfl, hb, fun k hk => ?_⟩
  obtain ⟨ad', e, _, hc'⟩ := h.i_at hk
  injection e with e
  subst e
  rw [Lib.add_plain] at hc'
  exact hc'

/-- The error of a row. -/
def rowChk (x : List Int) : Int := if 64 < x.length ∨ x.any (fun v => !fitsB v) = true then 4 else 0

theorem drew_below {w w' : World} (h : ∃ q, w' = w.drewN q) : Below w.heap.size w w' := by
  obtain ⟨q, rfl⟩ := h
  exact below_drewN (Below.refl _ _) q

/-! ### The text of a row -/

def strs (l : List (List UInt8)) : List Value := l.map fun s => Value.string ⟨s.toArray⟩
theorem strs_one (l : List (List UInt8)) : ∀ u ∈ strs l, u.oneCell' = true := by intro u hu; obtain ⟨n, _, rfl⟩ := List.mem_map.1 hu; rfl

theorem Tryz.info_string : (Tryz.prog.info? 9).map (fun i => (i.zero, i.size, i.bytes)) = some (some (.string ⟨#[]⟩), 1, 16) := by kernel_rfl

/-- The numbers of a row as texts, and all of them with blanks. -/
def words (x : List Int) : List (List UInt8) := x.map itoa
def rowTxt (x : List Int) : List UInt8 := Lib.join (words x) [32]

theorem words_take (x : List Int) (k : Nat) (hk : k < x.length) : words (x.take (k + 1)) = words (x.take k) ++ [itoa (x[k]?.getD 0)] := by
  unfold words
  rw [List.take_succ_eq_append_getElem hk, List.map_append, List.getElem?_eq_getElem hk]; rfl

end Go.Proofs.YteenfcmnmenigaaGreatDoor

namespace Go.Proofs.YteenfcmnmenigaaGreatDoor
open Go.RowKit Go.Lib

/-- How often p divides n, and what is left. -/
def mult (p n : Nat) : Nat := if h : 2 ≤ p ∧ 0 < n ∧ n % p = 0 then mult p (n / p) + 1 else 0
termination_by n
decreasing_by exact Nat.div_lt_self h.2.1 (by omega)
def left (p n : Nat) : Nat := if _h : 2 ≤ p ∧ 0 < n ∧ n % p = 0 then left p (n / p) else n
termination_by n
decreasing_by exact Nat.div_lt_self _h.2.1 (by omega)

theorem mult_yes {p n : Nat} (h : 2 ≤ p ∧ 0 < n ∧ n % p = 0) : mult p n = mult p (n / p) + 1 := by rw [mult, dif_pos h]
theorem mult_no {p n : Nat} (h : ¬ (2 ≤ p ∧ 0 < n ∧ n % p = 0)) : mult p n = 0 := by rw [mult, dif_neg h]
theorem left_yes {p n : Nat} (h : 2 ≤ p ∧ 0 < n ∧ n % p = 0) : left p n = left p (n / p) := by rw [left, dif_pos h]
theorem left_no {p n : Nat} (h : ¬ (2 ≤ p ∧ 0 < n ∧ n % p = 0)) : left p n = n := by rw [left, dif_neg h]

theorem left_le (p n : Nat) : left p n ≤ n ∧ (0 < n → 0 < left p n) := by
  induction n using Nat.strongRecOn with
  | _ n ih =>
    by_cases h : 2 ≤ p ∧ 0 < n ∧ n % p = 0
    · rw [left_yes h]
      have hlt : n / p < n := Nat.div_lt_self h.2.1 (by omega)
      have h1 := ih _ hlt
      have hpos : 0 < n / p := by
        have := Nat.div_add_mod n p
        rcases Nat.eq_zero_or_pos (n / p) with h0 | h0
        · rw [h0, h.2.2] at this; omega
        · exact h0
      exact ⟨by omega, fun _ => h1.2 hpos⟩
    · rw [left_no h]; exact ⟨Nat.le_refl _, id⟩

theorem mult_pow (p n : Nat) (hn : 0 < n) : 2 ^ mult p n ≤ n := by
  induction n using Nat.strongRecOn with
  | _ n ih =>
    by_cases h : 2 ≤ p ∧ 0 < n ∧ n % p = 0
    · rw [mult_yes h, Nat.pow_succ]
      have hlt : n / p < n := Nat.div_lt_self h.2.1 (by omega)
      have hm := Nat.div_add_mod n p
      have hpos : 0 < n / p := by
        rcases Nat.eq_zero_or_pos (n / p) with h0 | h0
        · rw [h0, h.2.2] at hm; omega
        · exact h0
      have h1 := ih _ hlt hpos
      have h2 : 2 * (n / p) ≤ p * (n / p) := Nat.mul_le_mul_right _ h.1
      omega
    · rw [mult_no h]; simp; omega

theorem mult_le (p n : Nat) (hn : n < 10 ^ 18) : mult p n ≤ 60 := by
  rcases Nat.eq_zero_or_pos n with h0 | h0
  · rw [mult_no (by omega)]; omega
  · have h1 := mult_pow p n h0
    rcases Nat.lt_or_ge 60 (mult p n) with h | h
    · have h2 : 2 ^ 61 ≤ 2 ^ mult p n := Nat.pow_le_pow_right (by omega) h
      have h3 : (10 : Nat) ^ 18 ≤ 2 ^ 61 := by decide
      omega
    · exact h

theorem dec18 {n m : Nat} (h : n ≤ m) (hm : (decDigits m).length ≤ 18) : (decDigits n).length ≤ 18 := by
  rw [dec_length] at *
  exact Nat.le_trans (nDigits_mono h) hm

theorem rat_cells {w w' : World} {a b : Value} {t : TypeId} (hb : Below (w.heap.size + 1) (w.alloc (.cells #[a, b] t)) w') : w'.cell? ⟨w.heap.size, 0, Option.none⟩ = some a ∧ w'.cell? ⟨w.heap.size, 1, Option.none⟩ = some b := by
  obtain ⟨h0, h1, _⟩ := two_below hb
  exact ⟨h0, h1⟩

set_option maxHeartbeats 1000000 in
theorem fracCheck_yes (n d : Int) (w : World) (hS : Std w) (hn : (decDigits n.natAbs).length ≤ 18) (hd : (decDigits d.natAbs).length ≤ 18) (hd0 : 0 < d) (hg : Nat.gcd n.natAbs d.natAbs = 1) :
    Calls Tryz.prog 114 #[.agg #[.string ⟨(itoa n).toArray⟩, .string ⟨(itoa d).toArray⟩]] w fun e w' => e = .returned (.int .i64 0) ∧ Below w.heap.size w w' := by
  have hln := itoa_len n
  have hld := itoa_len d
  have HN := Lib.hid (fun W => whCheck_split (itoa n) W (by omega) 0 (.inl ⟨⟨n, rfl, by omega⟩, rfl⟩))
  have HD := Lib.hid (fun W => whCheck_split (itoa d) W (by omega) 0 (.inl ⟨⟨d, rfl, by omega⟩, rfl⟩))
  have hsg : sgn d = 1 := by unfold sgn; rw [if_neg (by omega), if_neg (by omega)]
  have HSG := Lib.hid (fun W => whSign_any d W (by omega))
  rw [hsg] at HSG
  have HG := Lib.hid (fun W hW => whGcd_small n d W hW hn hd)
  rw [hg, dec_small (by omega)] at HG
  have HS := Lib.hid hS
  clear hsg hg hS hn hd hd0 hln hld
  generalize itoa n = a at *
  generalize itoa d = b at *
  go_enter Tryz.func114, Tryz.ntmps114
  go_wp2_with fail
  refine (HN.out _).mono ?_
  rintro e w1 ⟨rfl, hb1⟩
  rw [World.size_alloc] at hb1
  obtain ⟨q0, q1⟩ := rat_cells hb1
  go_wp2_with fail
  refine (HD.out _).mono ?_
  rintro e w2 ⟨rfl, hb2⟩
  have hb12 : Below (w.heap.size + 1) (w.alloc (.cells #[.string ⟨a.toArray⟩, .string ⟨b.toArray⟩] 72)) w2 := hb1.trans (hb2.mono (by have := hb1.size; simp at this; omega))
  clear q0 q1 hb1 hb2
  obtain ⟨q0, q1⟩ := rat_cells hb12
  go_wp2_with fail
  refine (HSG.out _).mono ?_
  rintro e w3 ⟨rfl, rfl⟩
  go_wp2_with fail
  have hs2 := HS.out.below (below_result hb12) (Nat.le_refl _)
  refine (HG.out _ hs2).mono ?_
  rintro e w4 ⟨rfl, hb4⟩
  go_wp2_with fail
  go_ret
  exact ⟨rfl, (below_result hb12).trans (hb4.mono (below_result hb12).size)⟩

end Go.Proofs.YteenfcmnmenigaaGreatDoor

namespace Go.Proofs.YteenfcmnmenigaaGreatDoor
open Go.RowKit Go.Lib

def leftTo (p : List Int) (n : Nat) : Nat → Nat
  | 0 => n
  | k + 1 => left (p[k]?.getD 0).toNat (leftTo p n k)
def expsTo (p : List Int) (n d : Nat) : Nat → List Int
  | 0 => []
  | k + 1 => expsTo p n d k ++ [(mult (p[k]?.getD 0).toNat (leftTo p n k) : Int) - (mult (p[k]?.getD 0).toNat (leftTo p d k) : Int)]

theorem leftTo_le (p : List Int) (n : Nat) (h : 0 < n) : ∀ k, leftTo p n k ≤ n ∧ 0 < leftTo p n k
  | 0 => ⟨Nat.le_refl _, h⟩
  | k + 1 => by
    obtain ⟨h1, h2⟩ := leftTo_le p n h k
    have := left_le (p[k]?.getD 0).toNat (leftTo p n k)
    rw [leftTo]
    exact ⟨by omega, this.2 h2⟩
theorem expsTo_len (p : List Int) (n d : Nat) : ∀ k, (expsTo p n d k).length = k
  | 0 => rfl
  | k + 1 => by rw [expsTo, List.length_append, expsTo_len p n d k]; rfl
theorem expsTo_small (p : List Int) (n d : Nat) (hn : n < 10 ^ 18) (hd : d < 10 ^ 18) (n0 : 0 < n) (d0 : 0 < d) : ∀ k, ∀ v ∈ expsTo p n d k, -60 ≤ v ∧ v ≤ 60
  | 0, v, hv => by simp [expsTo] at hv
  | k + 1, v, hv => by
    rw [expsTo] at hv
    rcases List.mem_append.1 hv with hv | hv
    · exact expsTo_small p n d hn hd n0 d0 k v hv
    · rw [List.mem_singleton] at hv
      have h1 := leftTo_le p n n0 k
      have h2 := leftTo_le p d d0 k
      have h3 := mult_le (p[k]?.getD 0).toNat (leftTo p n k) (by omega)
      have h4 := mult_le (p[k]?.getD 0).toNat (leftTo p d k) (by omega)
      omega

theorem chk_small {p x : List Int} (hp : primeErr p = 0) (hl : x.length = p.length) (hx : ∀ v ∈ x, -1000 ≤ v ∧ v ≤ 1000) : chkAll p [x] = 0 := by
  unfold chkAll
  rw [if_neg (by simpa using hp)]
  have : rowErr p.length x = 0 := by
    unfold rowErr
    rw [if_neg (by simpa using hl), if_neg]
    intro h
    obtain ⟨v, hv, hf⟩ := List.any_eq_true.1 h
    have := hx v hv
    unfold farB at hf
    simp at hf
    omega
  simp [rowsErr, this]

theorem Tryz.info_int : (Tryz.prog.info? 3).map (fun i => (i.zero, i.size, i.bytes)) = some (some (.int .i64 0), 1, 8) := by kernel_rfl

theorem IsRow.of_own {w : World} {base : Nat} {v : Value} {x : List Int} (h : w.ownsRow base 3 1 v x.length (is x)) : IsRow w w.heap.size v x := by
  obtain ⟨A, c, e, h1, h2, hr⟩ := Row.of_own h
  exact ⟨A, c, e, h1, h2, hr⟩

/-- What Of returns. -/
def OfPost (p : List Int) (n d : Nat) (e : Ending) (w' : World) : Prop :=
  (leftTo p n p.length = 1 ∧ leftTo p d p.length = 1 ∧ ∃ v, e = .returned (.tuple #[v, .int .i64 0]) ∧ IsRow w' w'.heap.size v (expsTo p n d p.length)) ∨
  (¬ (leftTo p n p.length = 1 ∧ leftTo p d p.length = 1) ∧ e = .returned (.tuple #[.slice Option.none 0 0, .int .i64 25]))

end Go.Proofs.YteenfcmnmenigaaGreatDoor
