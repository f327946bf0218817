import Derived.Test.YtaaeekahhhookaaGreatDoorGCCk
import Derived.Laws.ResultCell
namespace Go.Proofs.YtaaeekahhhookaaGreatDoor
open Go.RowKit Go.Lib
def noDiv (n : Int) (d : Nat) : Bool := decide (∀ e : Nat, e < 10 → d ≤ e → (e : Int) * e ≤ n → n % (e : Int) ≠ 0)
def primeB (n : Int) : Bool := decide (2 ≤ n) && decide (n ≤ 97) && noDiv n 2
set_option maxHeartbeats 400000 in
theorem isPrime_any (n : Int) (w : World) :
  Calls Tryz.prog 86 #[.int .i64 n] w fun e w' => e = .returned (.bool (primeB n)) ∧ w = w' := by
 by_cases h2 : n < 2
 ·have hv : primeB n = false := by unfold primeB; rw [decide_eq_false (show ¬ 2 ≤ n by omega)]; rfl
  rw [hv]
  clear hv
  go_enter Tryz.func86, Tryz.ntmps86
  go_wp2
  go_ret
  exact ⟨rfl, rfl⟩
 ·by_cases h97 : 97 < n
  ·have hv : primeB n = false := by unfold primeB; rw [decide_eq_false (show ¬ n ≤ 97 by omega), Bool.and_false]; rfl
   rw [hv]
   clear hv
   go_enter Tryz.func86, Tryz.ntmps86
   go_wp2
   go_ret
   exact ⟨rfl, rfl⟩
  ·have hv : primeB n = noDiv n 2 := by unfold primeB; rw [decide_eq_true (show 2 ≤ n by omega), decide_eq_true (show n ≤ 97 by omega)]; rfl
   rw [hv]
   clear hv
   go_enter Tryz.func86, Tryz.ntmps86
   go_wp2
   go_loop [3] (fun i => ∃ d : Nat, 2 ≤ d ∧ d ≤ 10 ∧ i = .int .i64 d ∧ Box (noDiv n 2 = noDiv n d)) (fun i => 10 - (intOf i).toNat)
   case atStart => exact ⟨2, by omega, by omega, rfl, ⟨rfl⟩⟩
   case round =>
    obtain ⟨d, hd2, hd10, rfl, HV⟩ := hrel
    have hdd : (d : Int) * (d : Int) ≤ 100 := by have := Nat.mul_le_mul hd10 hd10; rw [← Int.natCast_mul]; omega
    have hdd0 : 0 ≤ (d : Int) * (d : Int) := by rw [← Int.natCast_mul]; omega
    by_cases hle : (d : Int) * d ≤ n
    ·have hd9 : d < 10 := by
      rcases Nat.lt_or_ge d 10 with h | h
      ·exact h
      ·obtain rfl : d = 10 := by omega
       simp at hle; omega
     by_cases hm : n % (d : Int) = 0
     ·have HF : Box (noDiv n d = false) := ⟨by unfold noDiv; rw [decide_eq_false_iff_not]; intro h; exact h d hd9 (Nat.le_refl _) hle hm⟩
      go_wp2
      go_ret
      exact ⟨ret1 (congrArg Value.bool (HV.out.trans HF.out).symm), rfl⟩
     ·have HF : Box (noDiv n d = noDiv n (d + 1)) := ⟨by
       unfold noDiv
       rw [Bool.eq_iff_iff, decide_eq_true_iff, decide_eq_true_iff]
       refine ⟨fun h e he h1 => h e he (by omega), fun h e he h1 => ?_⟩
       by_cases hed : e = d
       ·subst hed; exact fun _ => hm
       ·exact h e he (by omega)⟩
      have hm' : (n % (d : Int) == 0) = false := by simpa using hm
      go_wp2
      go_round
      case rel => exact ⟨d + 1, by omega, by omega, by go_num, ⟨HV.out.trans HF.out⟩⟩
      case measure => simp [intOf]; omega
    ·have HF : Box (noDiv n d = true) := ⟨by
      unfold noDiv
      rw [decide_eq_true_iff]
      intro e _ h1 h3
      have : (d : Int) * d ≤ (e : Int) * e := by
       rw [← Int.natCast_mul, ← Int.natCast_mul]
       have := Nat.mul_le_mul h1 h1
       omega
      omega⟩
     go_wp2
     go_ret
     exact ⟨ret1 (congrArg Value.bool (HV.out.trans HF.out).symm), rfl⟩
def pErr (prev : Option Int) : List Int → Int
 | [] => 0
 | n :: r => if primeB n = false then 25 else if (prev.any fun m => decide (n ≤ m)) = true then 6 else pErr (some n) r
def primeErr (p : List Int) : Int := if p.length = 0 then 13 else if 6 < p.length then 4 else pErr Option.none p
def prevOf (p : List Int) (k : Nat) : Option Int := if k = 0 then Option.none else some (p[k - 1]?.getD 0)
theorem pErr_step (p : List Int) (k : Nat) (hk : k < p.length) (v : Int) (hv : p[k]?.getD 0 = v) : pErr (prevOf p k) (p.drop k) = if primeB v = false then 25 else if ((prevOf p k).any fun m => decide (v ≤ m)) = true then 6 else pErr (prevOf p (k + 1)) (p.drop (k + 1)) := by
 have e : p[k] = v := by rw [← hv, List.getElem?_eq_getElem hk]; rfl
 have e2 : prevOf p (k + 1) = some v := by unfold prevOf; rw [if_neg (by omega), Nat.add_sub_cancel, hv]
 rw [List.drop_eq_getElem_cons hk, pErr, e, e2]
def IsRow (w : World) (B : Nat) (v : Value) (x : List Int) : Prop := ∃ A c, v = .slice A x.length c ∧ x.length ≤ c ∧ c ≤ maxLen ∧ Row w B 1 A x.length (is x)
set_option maxHeartbeats 1000000 in
theorem primeCheck_any (v : Value) (p : List Int) (B : Nat) (w : World) (hv : IsRow w B v p) :
  Calls Tryz.prog 32 #[v] w fun e w' => e = .returned (.int .i64 (primeErr p)) ∧ w = w' := by
 obtain ⟨A, c, rfl, hlc, hcm, hr⟩ := hv
 by_cases h0 : p.length = 0
 ·have hv : primeErr p = 13 := by unfold primeErr; rw [if_pos h0]
  rw [hv, h0]
  clear hv
  go_enter Tryz.func32, Tryz.ntmps32
  go_wp2
  go_ret
  exact ⟨rfl, rfl⟩
 ·by_cases h6 : 6 < p.length
  ·have hv : primeErr p = 4 := by unfold primeErr; rw [if_neg h0, if_pos h6]
   rw [hv]
   have h0' : ((p.length : Int) == 0) = false := by rw [beq_eq_false_iff_ne]; omega
   clear hv
   go_enter Tryz.func32, Tryz.ntmps32
   go_wp2
   go_ret
   exact ⟨rfl, rfl⟩
  ·have hv : primeErr p = pErr (prevOf p 0) (p.drop 0) := by unfold primeErr; rw [if_neg h0, if_neg h6]; rfl
   rw [hv]
   clear hv
   have h0' : ((p.length : Int) == 0) = false := by rw [beq_eq_false_iff_ne]; omega
   go_enter Tryz.func32, Tryz.ntmps32
   go_wp2
   go_loop [15] (fun i => ∃ k : Nat, k ≤ p.length ∧ i = .int .i64 k ∧ Box (pErr (prevOf p 0) (p.drop 0) = pErr (prevOf p k) (p.drop k))) (fun i => p.length - (intOf i).toNat)
   case atStart => exact ⟨0, Nat.zero_le _, rfl, ⟨rfl⟩⟩
   case round =>
    obtain ⟨k, hk, rfl, HV⟩ := hrel
    by_cases hlt : k < p.length
    ·obtain ⟨ad, rfl, _, hca⟩ := hr.i_at hlt
     have hstep := pErr_step p k hlt _ rfl
     have HPR := Lib.hid (fun W => isPrime_any (p[k]?.getD 0) W)
     generalize hx : p[k]?.getD 0 = x at *
     have HST := Lib.hid hstep
     clear hstep hx
     cases hpb : primeB x with
     | false =>
       rw [hpb] at HPR
       have HE : Box (pErr (prevOf p 0) (p.drop 0) = 25) := ⟨by rw [HV.out, HST.out, if_pos hpb]⟩
       go_wp2_with (go_at_call 86; refine (HPR.out _).mono ?_; rintro e w1 ⟨rfl, rfl⟩)
       go_ret
       exact ⟨ret_int HE.out.symm, rfl⟩
     | true =>
       rw [hpb] at HPR
       by_cases hk0 : k = 0
       ·have HE : Box (pErr (prevOf p 0) (p.drop 0) = pErr (prevOf p (k + 1)) (p.drop (k + 1))) := ⟨by rw [HV.out, HST.out, if_neg (by rw [hpb]; simp), hk0]; rfl⟩
        have hk1 : ¬ 0 < k := by omega
        clear hk0
        go_wp2_with (go_at_call 86; refine (HPR.out _).mono ?_; rintro e w1 ⟨rfl, rfl⟩)
        go_round
        case rel => exact ⟨k + 1, by omega, by go_num, HE⟩
        case measure => simp [intOf]; omega
       ·obtain ⟨ad', e, _, hcb⟩ := hr.i_at (k := k - 1) (by omega)
        injection e with e
        subst e
        have hpv : prevOf p k = some (p[k - 1]?.getD 0) := by unfold prevOf; rw [if_neg hk0]
        generalize hy : p[k - 1]?.getD 0 = y at *
        have HPV := Lib.hid hpv
        clear hpv hy
        by_cases hxy : x ≤ y
        ·have HE : Box (pErr (prevOf p 0) (p.drop 0) = 6) := ⟨by rw [HV.out, HST.out, if_neg (by rw [hpb]; simp), HPV.out, if_pos (by simpa using hxy)]⟩
         go_wp2_with (go_at_call 86; refine (HPR.out _).mono ?_; rintro e w1 ⟨rfl, rfl⟩)
         go_ret
         exact ⟨ret_int HE.out.symm, rfl⟩
        ·have HE : Box (pErr (prevOf p 0) (p.drop 0) = pErr (prevOf p (k + 1)) (p.drop (k + 1))) := ⟨by rw [HV.out, HST.out, if_neg (by rw [hpb]; simp), HPV.out, if_neg (by simpa using hxy)]⟩
         go_wp2_with (go_at_call 86; refine (HPR.out _).mono ?_; rintro e w1 ⟨rfl, rfl⟩)
         go_round
         case rel => exact ⟨k + 1, by omega, by go_num, HE⟩
         case measure => simp [intOf]; omega
    ·obtain rfl : k = p.length := by omega
     have HE : Box (pErr (prevOf p 0) (p.drop 0) = 0) := ⟨by rw [HV.out, List.drop_of_length_le (Nat.le_refl _)]; rfl⟩
     go_wp2
     go_ret
     exact ⟨ret_int HE.out.symm, rfl⟩
def farB (v : Int) : Bool := decide (1000 < v) || decide (v < -1000)
def rowErr (n : Nat) (x : List Int) : Int := if x.length ≠ n then 5 else if x.any farB = true then 4 else 0
def rowsErr (n : Nat) : List (List Int) → Int
 | [] => 0
 | x :: r => if rowErr n x ≠ 0 then rowErr n x else rowsErr n r
def chkAll (p : List Int) (l : List (List Int)) : Int := if primeErr p ≠ 0 then primeErr p else rowsErr p.length l
theorem rowsErr_step (n : Nat) (l : List (List Int)) (k : Nat) (x : List Int) (hx : l[k]? = some x) : rowsErr n (l.drop k) = if rowErr n x ≠ 0 then rowErr n x else rowsErr n (l.drop (k + 1)) := by
 obtain ⟨hk, e⟩ := List.getElem?_eq_some_iff.1 hx
 rw [List.drop_eq_getElem_cons hk, rowsErr, e]
structure RowsAt (w : World) (B : Nat) (A : Option Addr) (l : List (List Int)) : Prop where
 get : ∀ k x, l[k]? = some x → ∃ ad v, A = some ad ∧ ad.block < B ∧ w.cell? (ad.add k) = some v ∧ IsRow w B v x
set_option maxHeartbeats 1000000 in
theorem checkAll_any (pv : Value) (p : List Int) (A : Option Addr) (c B : Nat) (l : List (List Int)) (w : World) (hp : IsRow w B pv p) (hl : RowsAt w B A l) (hlm : l.length ≤ 1000000) :
  Calls Tryz.prog 39 #[pv, .slice A l.length c] w fun e w' => e = .returned (.int .i64 (chkAll p l)) ∧ w = w' := by
 have HPC := Lib.hid (primeCheck_any pv p B w hp)
 obtain ⟨AP, cp, rfl, hpc, hpm, hpr⟩ := hp
 unfold maxLen at hpm
 have hpl : p.length ≤ 9223372036854775807 := by omega
 clear hpc hpm hpr
 by_cases hpe : primeErr p = 0
 ·rw [hpe] at HPC
  have hv : chkAll p l = rowsErr p.length (l.drop 0) := by unfold chkAll; rw [if_neg (by simp [hpe])]; rfl
  rw [hv]
  clear hv hpe
  go_enter Tryz.func39, Tryz.ntmps39
  go_wp2_with (go_at_call 32; refine HPC.out.mono ?_; rintro e w1 ⟨rfl, rfl⟩)
  go_loop [17] (fun i => ∃ k : Nat, k ≤ l.length ∧ i = .int .i64 k ∧ Box (rowsErr p.length (l.drop 0) = rowsErr p.length (l.drop k))) (fun i => l.length - (intOf i).toNat)
  case atStart => exact ⟨0, Nat.zero_le _, rfl, ⟨rfl⟩⟩
  case round =>
   obtain ⟨k, hk, rfl, HV⟩ := hrel
   by_cases hlt : k < l.length
   ·obtain ⟨ad, v, rfl, _, hca, A2, c2, rfl, hc2, hm2, hr2⟩ := hl.get k l[k] (List.getElem?_eq_getElem hlt)
    have HST := Lib.hid (rowsErr_step p.length l k l[k] (List.getElem?_eq_getElem hlt))
    generalize l[k] = x at *
    have HR : Hid (rowErr p.length x = if x.length ≠ p.length then 5 else if x.any farB = true then 4 else 0) := rfl
    unfold maxLen at hm2
    have hxl : x.length ≤ 9223372036854775807 := by omega
    clear hm2 hc2
    by_cases hxn : x.length = p.length
    ·have hne : ((x.length : Int) != (p.length : Int)) = false := by simp [hxn]
     have HXN := Lib.hid hxn
     clear hxn
     go_wp2
     go_loop [28] (fun i => ∃ j : Nat, j ≤ x.length ∧ i = .int .i64 j ∧ Box ((x.take j).any farB = false)) (fun i => x.length - (intOf i).toNat)
     case atStart => exact ⟨0, Nat.zero_le _, rfl, ⟨rfl⟩⟩
     case round =>
      obtain ⟨j, hj, rfl, HF⟩ := hrel
      by_cases hjl : j < x.length
      ·obtain ⟨ad2, rfl, _, hcb⟩ := hr2.i_at hjl
       have hs : (x.take (j + 1)).any farB = ((x.take j).any farB || farB (x[j]?.getD 0)) := by
        rw [List.take_succ_eq_append_getElem hjl, List.any_append, List.getElem?_eq_getElem hjl]; simp
       have hf : farB (x[j]?.getD 0) = true → x.any farB = true := by
        intro h
        rw [List.any_eq_true]
        exact ⟨x[j], List.getElem_mem hjl, by rw [List.getElem?_eq_getElem hjl] at h; simpa using h⟩
       have hfb : farB (x[j]?.getD 0) = (decide (1000 < x[j]?.getD 0) || decide (x[j]?.getD 0 < -1000)) := rfl
       generalize x[j]?.getD 0 = y at *
       have HS := Lib.hid hs
       have HF2 := Lib.hid hf
       have HFB := Lib.hid hfb
       clear hs hf hfb
       by_cases hy1 : 1000 < y
       ·have HE : Box (rowsErr p.length (l.drop 0) = 4) := ⟨by
         have : rowErr p.length x = 4 := by rw [HR.out, if_neg (by simp [HXN.out]), if_pos (HF2.out (by rw [HFB.out]; simp [hy1]))]
         rw [HV.out, HST.out, this]; rfl⟩
        go_wp2
        go_ret
        exact ⟨ret_int HE.out.symm, rfl⟩
       ·by_cases hy2 : y < -1000
        ·have HE : Box (rowsErr p.length (l.drop 0) = 4) := ⟨by
          have : rowErr p.length x = 4 := by rw [HR.out, if_neg (by simp [HXN.out]), if_pos (HF2.out (by rw [HFB.out]; simp [hy2]))]
          rw [HV.out, HST.out, this]; rfl⟩
         go_wp2
         go_ret
         exact ⟨ret_int HE.out.symm, rfl⟩
        ·go_wp2
         go_round
         case rel => exact ⟨j + 1, by omega, by go_num, ⟨by rw [HS.out, HF.out, HFB.out]; simp [hy1, hy2]⟩⟩
         case measure => simp [intOf]; omega
      ·obtain rfl : j = x.length := by omega
       have HE : Box (rowsErr p.length (l.drop 0) = rowsErr p.length (l.drop (k + 1))) := ⟨by
        have h := HF.out
        rw [List.take_of_length_le (Nat.le_refl _)] at h
        have : rowErr p.length x = 0 := by rw [HR.out, if_neg (by simp [HXN.out]), if_neg (by simp [h])]
        rw [HV.out, HST.out, this]; rfl⟩
       go_wp2
       go_round
       case rel => exact ⟨k + 1, by omega, by go_num, HE⟩
       case measure => simp [intOf]; omega
    ·have hne : ((x.length : Int) != (p.length : Int)) = true := by rw [bne_iff_ne]; omega
     have HE : Box (rowsErr p.length (l.drop 0) = 5) := ⟨by
      have : rowErr p.length x = 5 := by rw [HR.out, if_pos hxn]
      rw [HV.out, HST.out, this]; rfl⟩
     go_wp2
     go_ret
     exact ⟨ret_int HE.out.symm, rfl⟩
   ·obtain rfl : k = l.length := by omega
    have HE : Box (rowsErr p.length (l.drop 0) = 0) := ⟨by rw [HV.out, List.drop_of_length_le (Nat.le_refl _)]; rfl⟩
    go_wp2
    go_ret
    exact ⟨ret_int HE.out.symm, rfl⟩
 ·have hv : chkAll p l = primeErr p := by unfold chkAll; rw [if_pos hpe]
  rw [hv]
  clear hv
  have hpb : (primeErr p != 0) = true := by rw [bne_iff_ne]; exact hpe
  generalize primeErr p = q at *
  go_enter Tryz.func39, Tryz.ntmps39
  go_wp2_with (go_at_call 32; refine HPC.out.mono ?_; rintro e w1 ⟨rfl, rfl⟩)
  go_ret
  exact ⟨rfl, rfl⟩
theorem IsRow.keep {w w' : World} {B : Nat} {v : Value} {x : List Int} (h : IsRow w B v x) (hb : Below B w w') : IsRow w' B v x := by
 obtain ⟨A, c, e, h1, h2, hr⟩ := h
 exact ⟨A, c, e, h1, h2, hr.below hb (Nat.le_refl _)⟩
theorem IsRow.up {w : World} {B B' : Nat} {v : Value} {x : List Int} (h : IsRow w B v x) (hB : B ≤ B') : IsRow w B' v x := by
 obtain ⟨A, c, e, h1, h2, hr⟩ := h
 exact ⟨A, c, e, h1, h2, hr.up hB⟩
theorem IsRow.alloc {w : World} {B : Nat} {v : Value} {x : List Int} (h : IsRow w B v x) (hB : B ≤ w.heap.size) (o : Obj) : IsRow (w.alloc o) B v x := by
 obtain ⟨A, c, e, h1, h2, hr⟩ := h
 exact ⟨A, c, e, h1, h2, hr.alloc hB o⟩
theorem IsRow.lift {w w' : World} {v : Value} {x : List Int} (h : IsRow w w.heap.size v x) (hb : Below w.heap.size w w') : IsRow w' w'.heap.size v x := (h.keep hb).up hb.size
theorem rowsAt_one (w : World) (v : Value) (x : List Int) (t : TypeId) (hv : IsRow w w.heap.size v x) : RowsAt (w.alloc (.cells #[v] t)) (w.heap.size + 1) (some ⟨w.heap.size, 0, Option.none⟩) [x] := by
 refine ⟨fun k y hy => ?_⟩
 match k, hy with
 | 0, hy =>
   simp at hy
   subst hy
   exact ⟨_, v, rfl, by simp, by rw [addr0, World.cell?_alloc_new]; rfl, (hv.alloc (Nat.le_refl _) _).up (by omega)⟩
set_option maxHeartbeats 400000 in
theorem check_any (pv xv : Value) (p x : List Int) (w : World) (hp : IsRow w w.heap.size pv p) (hx : IsRow w w.heap.size xv x) :
  Calls Tryz.prog 13 #[pv, xv] w fun e w' => e = .returned (.int .i64 (chkAll p [x])) ∧ Below w.heap.size w w' := by
 have HC := Lib.hid (checkAll_any pv p (some ⟨w.heap.size, 0, Option.none⟩) 1 (w.heap.size + 1) [x] (w.alloc (.cells #[xv] 40)) ((hp.alloc (Nat.le_refl _) _).up (by omega)) (rowsAt_one w xv x _ hx) (by simp))
 obtain ⟨AP, cp, rfl, _⟩ := hp
 obtain ⟨AX, cx, rfl, _⟩ := hx
 go_enter Tryz.func13, Tryz.ntmps13
 go_wp2_with (go_at_call 39; refine HC.out.mono ?_; rintro e w1 ⟨rfl, rfl⟩)
 go_ret
 exact ⟨rfl, (Below.refl _ _).alloc (Nat.le_refl _) _⟩
set_option maxHeartbeats 400000 in
theorem result_yes (pv xv : Value) (p x : List Int) (w : World) (hp : IsRow w w.heap.size pv p) (hx : IsRow w w.heap.size xv x) (h : chkAll p [x] = 0) :
  Calls Tryz.prog 90 #[pv, xv] w fun e w' => e = .returned (.tuple #[xv, .int .i64 0]) ∧ Below w.heap.size w w' := by
 have HC := Lib.hid (checkAll_any pv p (some ⟨w.heap.size, 0, Option.none⟩) 1 (w.heap.size + 1) [x] (w.alloc (.cells #[xv] 40)) ((hp.alloc (Nat.le_refl _) _).up (by omega)) (rowsAt_one w xv x _ hx) (by simp))
 rw [h] at HC
 clear h
 obtain ⟨AP, cp, rfl, _⟩ := hp
 obtain ⟨AX, cx, rfl, _⟩ := hx
 go_enter Tryz.func90, Tryz.ntmps90
 go_wp2_with (go_at_call 39; refine HC.out.mono ?_; rintro e w1 ⟨rfl, rfl⟩)
 go_ret2
 exact ⟨rfl, (Below.refl _ _).alloc (Nat.le_refl _) _⟩
structure Right (p x : List Int) : Prop where
 len : x.length = p.length
 six : p.length ≤ 6
 pr : ∀ k, k < p.length → 2 ≤ p[k]?.getD 0 ∧ p[k]?.getD 0 ≤ 97
 ex : ∀ k, k < x.length → -1000 ≤ x[k]?.getD 0 ∧ x[k]?.getD 0 ≤ 1000
theorem pErr_zero : ∀ (l : List Int) (prev : Option Int), pErr prev l = 0 → ∀ v ∈ l, primeB v = true
 | [], _, _, v, hv => by simp at hv
 | n :: r, prev, h, v, hv => by
   rw [pErr] at h
   by_cases hp : primeB n = false
   ·rw [if_pos hp] at h; omega
   ·rw [if_neg hp] at h
    split at h
    ·omega
    ·rcases List.mem_cons.1 hv with rfl | hv
     ·simpa using hp
     ·exact pErr_zero r _ h v hv
theorem right_primes {p : List Int} (h : primeErr p = 0) : p.length ≤ 6 ∧ 1 ≤ p.length ∧ ∀ k, k < p.length → 2 ≤ p[k]?.getD 0 ∧ p[k]?.getD 0 ≤ 97 := by
 unfold primeErr at h
 split at h
 ·omega
 ·split at h
  ·omega
  ·refine ⟨by omega, by omega, fun k hk => ?_⟩
   have := pErr_zero p _ h p[k] (List.getElem_mem hk)
   unfold primeB at this
   rw [Bool.and_eq_true, Bool.and_eq_true, decide_eq_true_iff, decide_eq_true_iff] at this
   rw [List.getElem?_eq_getElem hk]
   exact this.1
theorem rowErr_zero {n : Nat} {x : List Int} (h : rowErr n x = 0) : x.length = n ∧ ∀ k, k < x.length → -1000 ≤ x[k]?.getD 0 ∧ x[k]?.getD 0 ≤ 1000 := by
 unfold rowErr at h
 split at h
 ·omega
 ·split at h
  ·omega
  ·rename_i h1 h2
   refine ⟨by omega, fun k hk => ?_⟩
   have h3 : ¬ farB x[k] = true := fun hf => h2 (List.any_eq_true.2 ⟨_, List.getElem_mem hk, hf⟩)
   unfold farB at h3
   simp at h3
   rw [List.getElem?_eq_getElem hk]
   simp
   omega
theorem right_of {p x : List Int} (h : chkAll p [x] = 0) : Right p x := by
 unfold chkAll at h
 by_cases hp : primeErr p = 0
 ·rw [if_neg (by simpa using hp), rowsErr] at h
  have hr : rowErr p.length x = 0 := by
   by_cases hr : rowErr p.length x = 0
   ·exact hr
   ·rw [if_pos hr] at h; exact h
  obtain ⟨h1, _, h2⟩ := right_primes hp
  obtain ⟨h3, h4⟩ := rowErr_zero hr
  exact ⟨h3, h1, h2, h4⟩
 ·rw [if_pos hp] at h
  exact absurd h hp
def numTo (p x : List Int) : Nat → Nat
 | 0 => 1
 | k + 1 => if 0 < x[k]?.getD 0 then numTo p x k * (p[k]?.getD 0).toNat ^ (x[k]?.getD 0).natAbs else numTo p x k
def denTo (p x : List Int) : Nat → Nat
 | 0 => 1
 | k + 1 => if 0 < x[k]?.getD 0 then denTo p x k else denTo p x k * (p[k]?.getD 0).toNat ^ (x[k]?.getD 0).natAbs
def num (p x : List Int) : Nat := numTo p x x.length
def den (p x : List Int) : Nat := denTo p x x.length
theorem dec_mul_len (a b : Nat) : (decDigits (a * b)).length ≤ (decDigits a).length + (decDigits b).length := by
 rw [dec_length (a * b)]
 have h1 := dec_lt_pow a
 have h2 := dec_lt_pow b
 have hp : 1 ≤ (decDigits a).length := by rw [dec_length]; exact nDigits_pos a
 refine nDigits_le (by omega) ?_
 rw [Nat.pow_add]
 exact Nat.mul_lt_mul'' h1 h2
theorem two_below {w w' : World} {a b : Value} {t : TypeId} (hb : Below (w.heap.size + 1) (w.alloc (.cells #[a, b] t)) w') :
  w'.cell? ⟨w.heap.size, 0, Option.none⟩ = some a ∧ w'.cell? ⟨w.heap.size, 1, Option.none⟩ = some b ∧ w'.frozen? ⟨w.heap.size, 0, Option.none⟩ = false ∧ w'.frozen? ⟨w.heap.size, 1, Option.none⟩ = false ∧ w.heap.size < w'.heap.size := by
 refine ⟨?_, ?_, ?_, ?_, ?_⟩
 ·rw [hb.cell (p := ⟨w.heap.size, 0, Option.none⟩) (by simp), World.cell?_alloc_new]; rfl
 ·rw [hb.cell (p := ⟨w.heap.size, 1, Option.none⟩) (by simp), World.cell?_alloc_new]; rfl
 ·rw [hb.frozen (p := ⟨w.heap.size, 0, Option.none⟩) (by simp), World.frozen?_alloc_new]
 ·rw [hb.frozen (p := ⟨w.heap.size, 1, Option.none⟩) (by simp), World.frozen?_alloc_new]
 ·have := hb.size; simp at this; omega
theorem below_result {w w1 : World} {o : Obj} (hb : Below (w.heap.size + 1) (w.alloc o) w1) : Below w.heap.size w w1 := ((Below.refl _ _).alloc (Nat.le_refl _) o).trans (hb.mono (by omega))
def ratText (a b : List UInt8) : List UInt8 := if (b == [49]) = true then a else a ++ 47 :: b
set_option maxHeartbeats 400000 in
theorem fracText_any (a b : List UInt8) (w : World) (ha : a.length ≤ 100000) (hb : b.length ≤ 100000) :
  Calls Tryz.prog 59 #[.agg #[.string ⟨a.toArray⟩, .string ⟨b.toArray⟩]] w fun e w' => e = .returned (.string ⟨(ratText a b).toArray⟩) ∧ Below w.heap.size w w' := by
 cases h1 : (b == [49]) with
 | true =>
   have HE : Box (ratText a b = a) := ⟨by unfold ratText; rw [if_pos h1]⟩
   go_enter Tryz.func59, Tryz.ntmps59
   go_wp2
   go_ret
   exact ⟨ret_str HE.out.symm, (Below.refl _ _).alloc (Nat.le_refl _) _⟩
 | false =>
   have HE : Box (ratText a b = a ++ [47] ++ b) := ⟨by unfold ratText; rw [if_neg (by simp [h1])]; simp⟩
   go_enter Tryz.func59, Tryz.ntmps59
   go_wp2
   go_ret
   refine ⟨ret1 (congrArg Value.string ?_), (Below.refl _ _).alloc (Nat.le_refl _) _⟩
   rw [HE.out]
   exact (congrArg (· ++ (⟨b.toArray⟩ : ByteArray)) (ba_append a [47])).trans (ba_append (a ++ [47]) b)
theorem IsRow.shape {w : World} {B : Nat} {v : Value} {x : List Int} (h : IsRow w B v x) : ∃ A c, v = .slice A x.length c := by
 obtain ⟨A, c, e, _⟩ := h
 exact ⟨A, c, e⟩
def fitsB (v : Int) : Bool := decide (-1000000000 ≤ v) && decide (v ≤ 1000000000)
theorem fits_any (v : Int) (w : World) : Calls Tryz.prog 141 #[.int .i64 v] w fun e w' => e = .returned (.bool (fitsB v)) ∧ w = w' := by
 have HE : Hid (fitsB v = (decide (-1000000000 ≤ v) && decide (v ≤ 1000000000))) := rfl
 by_cases h1 : -1000000000 ≤ v
 ·by_cases h2 : v ≤ 1000000000
  ·go_enter Tryz.func141, Tryz.ntmps141
   go_wp2
   go_ret
   exact ⟨ret1 (congrArg Value.bool (by rw [HE.out]; simp [h1, h2])), rfl⟩
  ·go_enter Tryz.func141, Tryz.ntmps141
   go_wp2
   go_ret
   exact ⟨ret1 (congrArg Value.bool (by rw [HE.out]; simp [h1, h2])), rfl⟩
 ·go_enter Tryz.func141, Tryz.ntmps141
  go_wp2
  go_ret
  exact ⟨ret1 (congrArg Value.bool (by rw [HE.out, decide_eq_false (by omega)]; rfl)), rfl⟩
theorem rowCheck1_any (v : Int) (w : World) : Calls Tryz.prog 140 #[.int .i64 v] w fun e w' => e = .returned (.bool (!fitsB v)) ∧ w = w' := by
 have HF := Lib.hid (fits_any v w)
 generalize fitsB v = b at *
 go_enter Tryz.func140, Tryz.ntmps140
 go_wp2_with (go_at_call 141; refine HF.out.mono ?_; rintro e w1 ⟨rfl, rfl⟩)
 go_ret
 exact ⟨rfl, rfl⟩
theorem addr_plain {w : World} {ad : Addr} {v : Value} (h : w.cell? ad = some v) : ∃ b o, ad = ⟨b, o, Option.none⟩ := by
 obtain ⟨b, o, s⟩ := ad
 have hs : s = Option.none := World.cell?_spot h
 subst hs
 exact ⟨b, o, rfl⟩
theorem Row.plain {w : World} {B n : Nat} {A : Option Addr} {x : List Int} (h : Row w B 1 A n (is x)) (hn : 0 < n) : ∃ b o, A = some ⟨b, o, Option.none⟩ ∧ b < B ∧ ∀ k, k < n → w.cell? ⟨b, o + k, Option.none⟩ = some (.int .i64 (x[k]?.getD 0)) := by
 obtain ⟨ad, rfl, hb, hc⟩ := h.i_at hn
 have hz : ad.add 0 = ad := by unfold Addr.add; simp
 rw [hz] at hc
 obtain ⟨b, o, rfl⟩ := addr_plain hc
 refine ⟨b, o, rfl, hb, fun k hk => ?_⟩
 obtain ⟨ad', e, _, hc'⟩ := h.i_at hk
 injection e with e
 subst e
 rw [Lib.add_plain] at hc'
 exact hc'
def rowChk (x : List Int) : Int := if 64 < x.length ∨ x.any (fun v => !fitsB v) = true then 4 else 0
theorem drew_below {w w' : World} (h : ∃ q, w' = w.drewN q) : Below w.heap.size w w' := by
 obtain ⟨q, rfl⟩ := h
 exact below_drewN (Below.refl _ _) q
theorem contains_row (v : Value) (x : List Int) (w : World) (hv : IsRow w w.heap.size v x) :
  Calls Tryz.prog 139 #[v, .func (.func 140) #[] #[]] w fun e w' => e = .returned (.bool (x.any (fun v => !fitsB v))) ∧ Below w.heap.size w w' := by
 obtain ⟨A, c, rfl, hc, hm, hr⟩ := hv
 unfold maxLen at hm
 rcases Nat.eq_zero_or_pos x.length with h0 | h0
 ·have : x = [] := List.eq_nil_of_length_eq_zero h0
  subst this
  exact (Tryz.slices_ContainsFunc_f139_empty (α := Int) A c _ w).mono fun e w' ⟨h1, h2⟩ => ⟨h1, h2 ▸ Below.refl _ _⟩
 ·obtain ⟨b, o, rfl, _, hcell⟩ := hr.plain h0
  have h := Tryz.slices_ContainsFunc_f139 (Value.int .i64) (fun v => !fitsB v) 140 #[] (fun args w => enters_of Tryz.func140 (by kernel_rfl) rfl args w) b o x.length c x w
   (fun W y _ => (rowCheck1_any y W).mono fun e w' ⟨h1, h2⟩ => ⟨h1, 0, by rw [World.drewN_zero]; exact h2.symm⟩) (Nat.le_refl _) (by omega) (fun j hj => by rw [hcell j hj, getElem!_pos x j hj, List.getElem?_eq_getElem hj]; rfl)
  rw [List.take_of_length_le (Nat.le_refl _)] at h
  exact h.mono fun e w' ⟨h1, h2⟩ => ⟨h1, drew_below h2⟩
set_option maxHeartbeats 400000 in
theorem rowCheck_any (v : Value) (x : List Int) (w : World) (hv : IsRow w w.heap.size v x) :
  Calls Tryz.prog 100 #[v] w fun e w' => e = .returned (.int .i64 (rowChk x)) ∧ Below w.heap.size w w' := by
 have HC := Lib.hid (contains_row v x w hv)
 obtain ⟨A, c, rfl, hc, hm, _⟩ := hv
 unfold maxLen at hm
 by_cases h64 : 64 < x.length
 ·have HE : Box (rowChk x = 4) := ⟨by unfold rowChk; rw [if_pos (.inl h64)]⟩
  go_enter Tryz.func100, Tryz.ntmps100
  go_wp2_with fail
  go_ret
  exact ⟨ret_int HE.out.symm, Below.refl _ _⟩
 ·cases hb : x.any (fun v => !fitsB v) with
  | true =>
    have HE : Box (rowChk x = 4) := ⟨by unfold rowChk; rw [if_pos (.inr hb)]⟩
    rw [hb] at HC
    clear hb
    go_enter Tryz.func100, Tryz.ntmps100
    go_wp2_with fail
    refine HC.out.mono ?_
    rintro e w1 ⟨rfl, hb1⟩
    go_wp2_with fail
    go_ret
    exact ⟨ret_int HE.out.symm, hb1⟩
  | false =>
    have HE : Box (rowChk x = 0) := ⟨by unfold rowChk; rw [if_neg (by rw [hb]; simp; omega)]⟩
    rw [hb] at HC
    clear hb
    go_enter Tryz.func100, Tryz.ntmps100
    go_wp2_with fail
    refine HC.out.mono ?_
    rintro e w1 ⟨rfl, hb1⟩
    go_wp2_with fail
    go_ret
    exact ⟨ret_int HE.out.symm, hb1⟩
def strs (l : List (List UInt8)) : List Value := l.map fun s => Value.string ⟨s.toArray⟩
theorem Tryz.info_string : (Tryz.prog.info? 9).map (fun i => (i.zero, i.size, i.bytes)) = some (some (.string ⟨#[]⟩), 1, 16) := by kernel_rfl
def words (x : List Int) : List (List UInt8) := x.map itoa
def rowTxt (x : List Int) : List UInt8 := Lib.join (words x) [32]
theorem words_take (x : List Int) (k : Nat) (hk : k < x.length) : words (x.take (k + 1)) = words (x.take k) ++ [itoa (x[k]?.getD 0)] := by
 unfold words
 rw [List.take_succ_eq_append_getElem hk, List.map_append, List.getElem?_eq_getElem hk]; rfl
set_option maxRecDepth 100000 in
set_option maxHeartbeats 1000000 in
theorem rowText_run (v : Value) (x : List Int) (w : World) (hS : Std w) (hv : IsRow w w.heap.size v x) (h : rowChk x = 0) (h64 : x.length ≤ 64) (hx : ∀ k, k < x.length → -1000000000 ≤ x[k]?.getD 0 ∧ x[k]?.getD 0 ≤ 1000000000) (hj : (rowTxt x).length ≤ 100000) (b : Bool) :
  Calls Tryz.prog 60 #[v, .bool b] w fun e w' => e = .returned (.tuple #[.string ⟨(if b then 91 :: rowTxt x ++ [62] else 60 :: rowTxt x ++ [93]).toArray⟩, .int .i64 0]) ∧ Below w.heap.size w w' := by
 obtain ⟨i0, hi0, hz0, hz1, hz2⟩ := info_parts Tryz.info_string
 have HC := Lib.hid (rowCheck_any v x w hv)
 rw [h] at HC
 have HV := Lib.hid hv
 have HX := Lib.hid hx
 have HS := Lib.hid hS
 obtain ⟨A, c, rfl, hc, hm, _⟩ := hv
 clear h hx hS hm hc
 go_enter Tryz.func60, Tryz.ntmps60
 go_wp2_with fail
 refine HC.out.mono ?_
 rintro e w1 ⟨rfl, hb1⟩
 go_wp2_with fail
 go_loopw [7, 18] (fun o i wr => ∃ k : Nat, k ≤ x.length ∧ i = .int .i64 k ∧ wr.ownsRow w.heap.size 9 1 o k (strs (words (x.take k))) ∧ Below w.heap.size w wr) (fun _ i _ => x.length - (intOf i).toNat)
 case atStart => exact ⟨0, Nat.zero_le _, rfl, by rw [List.take_zero]; exact World.ownsRow_nil _ _ _ _, hb1⟩
 case round =>
  clear hb1
  obtain ⟨k, hk, rfl, hown, hbw⟩ := hrel
  by_cases hlt : k < x.length
  ·obtain ⟨A', c', e', _, _, hr⟩ := HV.out
   injection e' with e1 _ e3
   subst e1 e3
   obtain ⟨ad, rfl, _, hca⟩ := (hr.below hbw (Nat.le_refl _)).i_at hlt
   have hxk := HX.out k hlt
   have HW := Lib.hid (words_take x k hlt)
   generalize x[k]?.getD 0 = y at *
   have HI := Lib.hid (Tryz.strconv_Itoa y (by omega) (by omega) wr (HS.out.below hbw (Nat.le_refl _)).tab)
   have HO := Lib.hid hown
   clear hown hr
   go_wp2_with (first | (go_at_call 101; refine HI.out.mono ?_; rintro e w2 ⟨rfl, hw⟩; have hb2 := grow_below hw; clear hw; have hown2 := own_below HO.out hb2) | (at_builtin; refine wpList_append_own _ rfl _ _ _ rfl w.heap.size 9 i0 (.string ⟨#[]⟩) 1 16 Tryz.underlying24 hi0 hz0 hz1 hz2 rfl (by decide) _ _ _ rfl (hown2.alloc _) ⟨w2.heap.size, 0, Option.none⟩ 1 1 [_] rfl rfl (cell_one_new _ _ _) (by intro u hu; simp at hu; subst hu; rfl) (by unfold maxLen; omega) (by omega) (by have := hbw.size; have := hb2.size; simp; omega) ?_; intro v3 w3 hown3 hg3 _))
   go_wp2
   go_roundw
   case rel =>
    refine ⟨k + 1, by omega, by go_num, ?_, ?_⟩
    ·rw [HW.out]
     unfold strs
     rw [List.map_append]
     exact hown3
    ·exact ((hbw.trans (hb2.mono hbw.size)).alloc (by have := hbw.size; have := hb2.size; omega) _).grown hg3 (by have := hbw.size; have := hb2.size; simp; omega) (fun k hk => (HO.out.lt k hk).1)
   case measure => simp [intOf]; omega
  ·obtain rfl : k = x.length := by omega
   have HJ : Hid (Calls Tryz.prog 58 #[u7, .string ⟨#[32]⟩] wr fun e w' => e = .returned (.string ⟨(rowTxt x).toArray⟩) ∧ Below wr.heap.size wr w') := by
    rw [List.take_of_length_le (Nat.le_refl _)] at hown
    have hwl : (words x).length = x.length := by simp [words]
    rcases Nat.eq_zero_or_pos x.length with h0 | h0
    ·obtain ⟨A7, c7, rfl, _, _, _⟩ := Row.of_own hown
     have hn : x = [] := List.eq_nil_of_length_eq_zero h0
     rw [h0]
     refine (Tryz.strings_Join_none A7 c7 ⟨#[32]⟩ wr).mono fun e w' ⟨h1, h2⟩ => ⟨?_, h2 ▸ Below.refl _ _⟩
     rw [h1, hn]; rfl
    ·obtain ⟨A7, c7, rfl, hc7, hm7, hr7⟩ := Row.of_own hown
     have hcell : ∀ j s, (words x)[j]? = some s → ∃ ad, A7 = some ad ∧ ad.block < wr.heap.size ∧ wr.cell? (ad.add j) = some (.string ⟨s.toArray⟩) := by
      intro j s hs
      exact hr7.get j _ (by unfold strs; rw [List.getElem?_map, hs]; rfl)
     have h0w : 0 < (words x).length := by omega
     obtain ⟨ad, rfl, hadb, hc0⟩ := hcell 0 _ (List.getElem?_eq_getElem h0w)
     have hz : ad.add 0 = ad := by unfold Addr.add; simp
     rw [hz] at hc0
     obtain ⟨bk, o, rfl⟩ := addr_plain hc0
     have hJ := Tryz.strings_Join bk o c7 ((words x).map fun s => ⟨s.toArray⟩) ⟨#[32]⟩ wr (by
      intro j s hs
      rw [List.getElem?_map] at hs
      cases hw : (words x)[j]? with
      | none => rw [hw] at hs; cases hs
      | some t =>
        rw [hw] at hs
        simp at hs
        subst hs
        obtain ⟨ad', e, _, hc'⟩ := hcell j t hw
        have e2 := Option.some.inj e
        subst e2
        rw [Lib.add_plain] at hc'
        exact hc') hadb (by simp; omega) (by simp; omega) (by
      rw [List.map_map]
      have : ((fun x : ByteArray => x.data.toList) ∘ fun s : List UInt8 => (⟨s.toArray⟩ : ByteArray)) = id := by funext s; rfl
      rw [this, List.map_id]
      exact Nat.le_trans hj (by omega))
     rw [List.length_map, hwl, List.map_map] at hJ
     have hid : ((fun x : ByteArray => x.data.toList) ∘ fun s : List UInt8 => (⟨s.toArray⟩ : ByteArray)) = id := by funext s; rfl
     rw [hid, List.map_id] at hJ
     exact hJ
   clear hown
   cases b with
   | true =>
     go_wp2_with (go_at_call 58; refine HJ.out.mono ?_; rintro e w2 ⟨rfl, hb2⟩)
     go_ret2
     refine ⟨ret2 (congrArg Value.string ?_) rfl, hbw.trans (hb2.mono hbw.size)⟩
     exact (congrArg (· ++ (⟨#[62]⟩ : ByteArray)) (ba_append [91] (rowTxt x))).trans (ba_append ([91] ++ rowTxt x) [62])
   | false =>
     go_wp2_with (go_at_call 58; refine HJ.out.mono ?_; rintro e w2 ⟨rfl, hb2⟩)
     go_ret2
     refine ⟨ret2 (congrArg Value.string ?_) rfl, hbw.trans (hb2.mono hbw.size)⟩
     exact (congrArg (· ++ (⟨#[93]⟩ : ByteArray)) (ba_append [60] (rowTxt x))).trans (ba_append ([60] ++ rowTxt x) [93])
set_option maxHeartbeats 400000 in
theorem fracSign_any (n : Int) (b : List UInt8) (w : World) (h : (itoa n).length ≤ 100000) :
  Calls Tryz.prog 48 #[.agg #[.string ⟨(itoa n).toArray⟩, .string ⟨b.toArray⟩]] w fun e w' => e = .returned (.int .i64 (sgn n)) ∧ Below w.heap.size w w' := by
 have HS := Lib.hid (fun W => whSign_any n W h)
 generalize itoa n = l at *
 go_enter Tryz.func48, Tryz.ntmps48
 go_wp2_with (go_at_call 95; refine (HS.out _).mono ?_; rintro e w1 ⟨rfl, hw⟩; have hb1 : Below w.heap.size w w1 := (by rw [← hw]; exact (Below.refl _ _).alloc (Nat.le_refl _) _); clear hw)
 go_ret
 exact ⟨rfl, hb1⟩
def mult (p n : Nat) : Nat := if h : 2 ≤ p ∧ 0 < n ∧ n % p = 0 then mult p (n / p) + 1 else 0
termination_by n
decreasing_by exact Nat.div_lt_self h.2.1 (by omega)
def left (p n : Nat) : Nat := if _h : 2 ≤ p ∧ 0 < n ∧ n % p = 0 then left p (n / p) else n
termination_by n
decreasing_by exact Nat.div_lt_self _h.2.1 (by omega)
theorem mult_yes {p n : Nat} (h : 2 ≤ p ∧ 0 < n ∧ n % p = 0) : mult p n = mult p (n / p) + 1 := by rw [mult, dif_pos h]
theorem mult_no {p n : Nat} (h : ¬ (2 ≤ p ∧ 0 < n ∧ n % p = 0)) : mult p n = 0 := by rw [mult, dif_neg h]
theorem left_yes {p n : Nat} (h : 2 ≤ p ∧ 0 < n ∧ n % p = 0) : left p n = left p (n / p) := by rw [left, dif_pos h]
theorem left_no {p n : Nat} (h : ¬ (2 ≤ p ∧ 0 < n ∧ n % p = 0)) : left p n = n := by rw [left, dif_neg h]
theorem left_le (p n : Nat) : left p n ≤ n ∧ (0 < n → 0 < left p n) := by
 induction n using Nat.strongRecOn with
 | _ n ih =>
   by_cases h : 2 ≤ p ∧ 0 < n ∧ n % p = 0
   ·rw [left_yes h]
    have hlt : n / p < n := Nat.div_lt_self h.2.1 (by omega)
    have h1 := ih _ hlt
    have hpos : 0 < n / p := by
     have := Nat.div_add_mod n p
     rcases Nat.eq_zero_or_pos (n / p) with h0 | h0
     ·rw [h0, h.2.2] at this; omega
     ·exact h0
    exact ⟨by omega, fun _ => h1.2 hpos⟩
   ·rw [left_no h]; exact ⟨Nat.le_refl _, id⟩
theorem mult_pow (p n : Nat) (hn : 0 < n) : 2 ^ mult p n ≤ n := by
 induction n using Nat.strongRecOn with
 | _ n ih =>
   by_cases h : 2 ≤ p ∧ 0 < n ∧ n % p = 0
   ·rw [mult_yes h, Nat.pow_succ]
    have hlt : n / p < n := Nat.div_lt_self h.2.1 (by omega)
    have hm := Nat.div_add_mod n p
    have hpos : 0 < n / p := by
     rcases Nat.eq_zero_or_pos (n / p) with h0 | h0
     ·rw [h0, h.2.2] at hm; omega
     ·exact h0
    have h1 := ih _ hlt hpos
    have h2 : 2 * (n / p) ≤ p * (n / p) := Nat.mul_le_mul_right _ h.1
    omega
   ·rw [mult_no h]; simp; omega
theorem rat_cells {w w' : World} {a b : Value} {t : TypeId} (hb : Below (w.heap.size + 1) (w.alloc (.cells #[a, b] t)) w') : w'.cell? ⟨w.heap.size, 0, Option.none⟩ = some a ∧ w'.cell? ⟨w.heap.size, 1, Option.none⟩ = some b := by
 obtain ⟨h0, h1, _⟩ := two_below hb
 exact ⟨h0, h1⟩
def leftTo (p : List Int) (n : Nat) : Nat → Nat
 | 0 => n
 | k + 1 => left (p[k]?.getD 0).toNat (leftTo p n k)
def expsTo (p : List Int) (n d : Nat) : Nat → List Int
 | 0 => []
 | k + 1 => expsTo p n d k ++ [(mult (p[k]?.getD 0).toNat (leftTo p n k) : Int) - (mult (p[k]?.getD 0).toNat (leftTo p d k) : Int)]
theorem leftTo_le (p : List Int) (n : Nat) (h : 0 < n) : ∀ k, leftTo p n k ≤ n ∧ 0 < leftTo p n k
 | 0 => ⟨Nat.le_refl _, h⟩
 | k + 1 => by
   obtain ⟨h1, h2⟩ := leftTo_le p n h k
   have := left_le (p[k]?.getD 0).toNat (leftTo p n k)
   rw [leftTo]
   exact ⟨by omega, this.2 h2⟩
theorem expsTo_len (p : List Int) (n d : Nat) : ∀ k, (expsTo p n d k).length = k
 | 0 => rfl
 | k + 1 => by rw [expsTo, List.length_append, expsTo_len p n d k]; rfl
theorem chk_small {p x : List Int} (hp : primeErr p = 0) (hl : x.length = p.length) (hx : ∀ v ∈ x, -1000 ≤ v ∧ v ≤ 1000) : chkAll p [x] = 0 := by
 unfold chkAll
 rw [if_neg (by simpa using hp)]
 have : rowErr p.length x = 0 := by
  unfold rowErr
  rw [if_neg (by simpa using hl), if_neg]
  intro h
  obtain ⟨v, hv, hf⟩ := List.any_eq_true.1 h
  have := hx v hv
  unfold farB at hf
  simp at hf
  omega
 simp [rowsErr, this]
theorem Tryz.info_int : (Tryz.prog.info? 3).map (fun i => (i.zero, i.size, i.bytes)) = some (some (.int .i64 0), 1, 8) := by kernel_rfl
theorem IsRow.of_own {w : World} {base : Nat} {v : Value} {x : List Int} (h : w.ownsRow base 3 1 v x.length (is x)) : IsRow w w.heap.size v x := by
 obtain ⟨A, c, e, h1, h2, hr⟩ := Row.of_own h
 exact ⟨A, c, e, h1, h2, hr⟩
def OfPost (p : List Int) (n d : Nat) (e : Ending) (w' : World) : Prop :=
 (leftTo p n p.length = 1 ∧ leftTo p d p.length = 1 ∧ ∃ v, e = .returned (.tuple #[v, .int .i64 0]) ∧ IsRow w' w'.heap.size v (expsTo p n d p.length)) ∨
 (¬ (leftTo p n p.length = 1 ∧ leftTo p d p.length = 1) ∧ e = .returned (.tuple #[.slice Option.none 0 0, .int .i64 25]))
end Go.Proofs.YtaaeekahhhookaaGreatDoor
