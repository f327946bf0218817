/- slices.ContainsFunc over rows; schismalaw39.few, long. schismalaw39.check (as XCd1). schismalaw39.sorted. schismalaw39.long. schismalaw39.sub and rooted. -/
import Derived.Test.YteenfcmnmenigaaGreatDoorGCD
import Derived.Test.YteenfcmnmenigaaGreatDoorGCB
import Derived.Test.YteenfcmnmenigaaGreatDoorGCC
import Derived.Test.YteenfcmnmenigaaGreatDoorGCG
namespace Go.Proofs.YteenfcmnmenigaaGreatDoor
open Go.RowKit Go.Lib

def idxR (p : List Int → Bool) : Nat → List (List Int) → Int
  | _, [] => -1
  | k, t :: r => if p t then k else idxR p (k + 1) r
theorem idxR_any (p : List Int → Bool) : ∀ (l : List (List Int)) (k : Nat), decide (0 ≤ idxR p k l) = l.any p
  | [], k => rfl
  | t :: r, k => by
    rw [idxR, List.any_cons]
    cases h : p t with
    | true => rw [if_pos rfl, Bool.true_or, decide_eq_true (by omega)]
    | false => rw [if_neg (by decide), Bool.false_or, idxR_any p r (k + 1)]

set_option maxRecDepth 100000 in
set_option maxHeartbeats 2000000 in
theorem indexFunc_rows (pf : FuncId) (p : List Int → Bool) (A : Option Addr) (c : Nat) (l : List (List Int)) (w : World) (h : RowsAt w w.heap.size A l) (hl : l.length ≤ 9223372036854775807) (hpf : pf = 35 ∨ pf = 49)
    (HP : Hid (∀ (x : List Int) (v : Value) (W : World), IsRow W W.heap.size v x → Calls Tryz.prog pf #[v] W fun e w' => e = .returned (.bool (p x)) ∧ Below W.heap.size W w')) :
    Calls Tryz.prog 67 #[.slice A l.length c, .func (.func pf) #[] #[]] w fun e w' => e = .returned (.int .i64 (idxR p 0 l)) ∧ Below w.heap.size w w' := by
  have H1 : Box (RowsAt w w.heap.size A l) := ⟨h⟩
  clear h
  obtain ⟨out, HO⟩ : ∃ out, Box (idxR p 0 (l.drop 0) = out ∧ idxR p 0 l = out) := ⟨_, ⟨rfl, rfl⟩⟩
  rw [HO.out.2]
  rcases hpf with rfl | rfl
  all_goals
    go_enter Tryz.func67, Tryz.ntmps67
    go_wp2_with fail
    go_loopw [8] (fun i wr => ∃ k : Nat, k ≤ l.length ∧ i = .int .i64 k ∧ Box (idxR p k (l.drop k) = out) ∧ Below w.heap.size w wr) (fun i _ => l.length - (intOf i).toNat)
    case atStart => exact ⟨0, Nat.zero_le _, rfl, ⟨HO.out.1⟩, Below.refl _ _⟩
    case round =>
      obtain ⟨k, hk, rfl, HK, hbw⟩ := hrel
      by_cases hlt : k < l.length
      · obtain ⟨b1, o1, r1, rfl, hb1, hc1, hr1⟩ := rows_pl H1.out (List.getElem?_eq_getElem hlt)
        have p1 := (hbw.cell (p := ⟨b1, o1 + k, Option.none⟩) hb1).trans hc1
        have HS : Box (out = if p (l[k]'hlt) then (k : Int) else idxR p (k + 1) (l.drop (k + 1))) := ⟨by rw [← HK.out, List.drop_eq_getElem_cons hlt, idxR]⟩
        have HE := Lib.hid (HP.out (l[k]'hlt) r1 wr (hr1.lift hbw))
        generalize l[k]'hlt = t1 at *
        obtain ⟨A1, C1, rfl⟩ := hr1.shape
        generalize p t1 = tb at *
        clear hc1 hr1
        cases tb with
        | true =>
          have HF : Box (out = (k : Int)) := ⟨by rw [HS.out]; rfl⟩
          clear HS HK HO
          go_wp2_with fail
          refine HE.out.mono ?_
          rintro e w1 ⟨rfl, hb1⟩
          have hbn := hbw.trans (hb1.mono hbw.size)
          clear hb1
          go_wp2_with fail
          go_ret
          exact ⟨ret1 (congrArg (Value.int .i64) HF.out.symm), hbn⟩
        | false =>
          have HF : Box (idxR p (k + 1) (l.drop (k + 1)) = out) := ⟨by rw [HS.out]; rfl⟩
          clear HS HK HO
          go_wp2_with fail
          refine HE.out.mono ?_
          rintro e w1 ⟨rfl, hb1⟩
          have hbn := hbw.trans (hb1.mono hbw.size)
          clear hb1
          go_wp2_with fail
          go_roundw
          case rel => exact ⟨k + 1, by omega, by go_num, HF, hbn⟩
          case measure => simp [intOf]; omega
      · obtain rfl : k = l.length := by omega
        have HF : Box (out = -1) := ⟨by rw [← HK.out, List.drop_length]; rfl⟩
        go_wp2_with fail
        go_ret
        exact ⟨ret1 (congrArg (Value.int .i64) HF.out.symm), hbw⟩

set_option maxHeartbeats 1000000 in
theorem contains_rows (pf : FuncId) (p : List Int → Bool) (A : Option Addr) (c : Nat) (l : List (List Int)) (w : World) (h : RowsAt w w.heap.size A l) (hl : l.length ≤ 9223372036854775807) (hpf : pf = 35 ∨ pf = 49)
    (HP : Hid (∀ (x : List Int) (v : Value) (W : World), IsRow W W.heap.size v x → Calls Tryz.prog pf #[v] W fun e w' => e = .returned (.bool (p x)) ∧ Below W.heap.size W w')) :
    Calls Tryz.prog 34 #[.slice A l.length c, .func (.func pf) #[] #[]] w fun e w' => e = .returned (.bool (l.any p)) ∧ Below w.heap.size w w' := by
  have HI := Lib.hid (indexFunc_rows pf p A c l w h hl hpf HP)
  rw [← idxR_any p l 0]
  clear h HP
  generalize idxR p 0 l = z at *
  go_enter Tryz.func34, Tryz.ntmps34
  go_wp2_with fail
  refine HI.out.mono ?_
  rintro e w1 ⟨rfl, hb1⟩
  go_wp2_with fail
  go_ret
  exact ⟨rfl, hb1⟩

theorem few1_any (v : Value) (x : List Int) (w : World) (hv : IsRow w w.heap.size v x) :
    Calls Tryz.prog 35 #[v] w fun e w' => e = .returned (.bool (decide (8 < x.length))) ∧ Below w.heap.size w w' := by
  obtain ⟨A, c, rfl⟩ := hv.shape
  clear hv
  have hd : decide (8 < (x.length : Int)) = decide (8 < x.length) := by
    by_cases h : 8 < x.length
    · rw [decide_eq_true h, decide_eq_true (by omega)]
    · rw [decide_eq_false h, decide_eq_false (by omega)]
  go_enter Tryz.func35, Tryz.ntmps35
  go_wp2_with fail
  go_ret
  exact ⟨rfl, Below.refl _ _⟩

/-- What few says. -/
def few39 (c : List (List Int)) : Bool := (decide (c.length ≤ 6) || (decide (12 ≤ c.length) && decide (c.length ≤ 14))) && !(c.any fun x => decide (8 < x.length))
set_option maxRecDepth 100000 in
set_option maxHeartbeats 2000000 in
theorem few_any39 (A : Option Addr) (c : Nat) (l : List (List Int)) (w : World) (h : RowsAt w w.heap.size A l) (hl : l.length ≤ 9223372036854775807) :
    Calls Tryz.prog 8 #[.slice A l.length c] w fun e w' => e = .returned (.bool (few39 l)) ∧ Below w.heap.size w w' := by
  have HC := Lib.hid (contains_rows 35 (fun x => decide (8 < x.length)) A c l w h hl (.inl rfl) (Lib.hid (fun x v W hW => few1_any v x W hW)))
  have HF : Hid (few39 l = ((decide (l.length ≤ 6) || (decide (12 ≤ l.length) && decide (l.length ≤ 14))) && !(l.any fun x => decide (8 < x.length)))) := Lib.hid rfl
  generalize few39 l = out at *
  generalize (l.any fun x => decide (8 < x.length)) = bb at *
  clear h
  by_cases h6 : l.length ≤ 6
  · have h6' : decide ((l.length : Int) ≤ 6) = true := decide_eq_true (by omega)
    rw [decide_eq_true h6, Bool.true_or, Bool.true_and] at HF
    have HB : Box (out = !bb) := ⟨HF.out⟩
    clear HF h6
    go_enter Tryz.func8, Tryz.ntmps8
    go_wp2_with fail
    refine HC.out.mono ?_
    rintro e w1 ⟨rfl, hb1⟩
    go_wp2_with fail
    go_ret
    exact ⟨ret1 (congrArg Value.bool HB.out.symm), hb1⟩
  · have h6' : decide ((l.length : Int) ≤ 6) = false := decide_eq_false (by omega)
    rw [decide_eq_false h6, Bool.false_or] at HF
    by_cases h12 : 12 ≤ l.length
    · have h12' : decide (12 ≤ (l.length : Int)) = true := decide_eq_true (by omega)
      rw [decide_eq_true h12, Bool.true_and] at HF
      by_cases h14 : l.length ≤ 14
      · have h14' : decide ((l.length : Int) ≤ 14) = true := decide_eq_true (by omega)
        rw [decide_eq_true h14, Bool.true_and] at HF
        have HB : Box (out = !bb) := ⟨HF.out⟩
        clear HF h6 h12 h14
        go_enter Tryz.func8, Tryz.ntmps8
        go_wp2_with fail
        refine HC.out.mono ?_
        rintro e w1 ⟨rfl, hb1⟩
        go_wp2_with fail
        go_ret
        exact ⟨ret1 (congrArg Value.bool HB.out.symm), hb1⟩
      · have h14' : decide ((l.length : Int) ≤ 14) = false := decide_eq_false (by omega)
        rw [decide_eq_false h14, Bool.false_and] at HF
        have HB : Box (out = false) := ⟨HF.out⟩
        clear HF h6 h12 h14 HC
        go_enter Tryz.func8, Tryz.ntmps8
        go_wp2_with fail
        go_ret
        exact ⟨ret1 (congrArg Value.bool HB.out.symm), Below.refl _ _⟩
    · have h12' : decide (12 ≤ (l.length : Int)) = false := decide_eq_false (by omega)
      rw [decide_eq_false h12, Bool.false_and, Bool.false_and] at HF
      have HB : Box (out = false) := ⟨HF.out⟩
      clear HF h6 h12 HC
      go_enter Tryz.func8, Tryz.ntmps8
      go_wp2_with fail
      go_ret
      exact ⟨ret1 (congrArg Value.bool HB.out.symm), Below.refl _ _⟩

theorem few_len {l : List (List Int)} (h : few39 l = true) : l.length ≤ 14 := by
  unfold few39 at h
  have h1 := (Bool.and_eq_true_iff.1 h).1
  rcases Bool.or_eq_true_iff.1 h1 with h2 | h2
  · have := of_decide_eq_true h2; omega
  · have := of_decide_eq_true (Bool.and_eq_true_iff.1 h2).2; omega

end Go.Proofs.YteenfcmnmenigaaGreatDoor

namespace Go.Proofs.YteenfcmnmenigaaGreatDoor
open Go.RowKit Go.Lib

set_option maxRecDepth 100000 in
set_option maxHeartbeats 2000000 in
theorem lwCheck_any (pv : Value) (p : List Int) (A : Option Addr) (c : Nat) (l : List (List Int)) (w : World) (hS : Std w) (hp : IsRow w w.heap.size pv p) (hl : RowsAt w w.heap.size A l) (hn : l.length ≤ 1000000) :
    Calls Tryz.prog 14 #[pv, .slice A l.length c] w fun e w' => e = .returned (.int .i64 (chErr p l)) ∧ Below w.heap.size w w' := by
  have HPC := Lib.hid (primeCheck_any pv p _ w hp)
  have HS := Lib.hid hS
  have HP := Lib.hid hp
  have HL : Box (RowsAt w w.heap.size A l) := ⟨hl⟩
  have hE : ∀ V, chErr p l = V → Hid (chErr p l = V) := fun _ h => Lib.hid h
  have HU : Hid (chErr p l = if primeErr p ≠ 0 then primeErr p else if l.length = 0 then 13 else if 12 < l.length then 4 else chFrom p l l.length) := Lib.hid rfl
  clear hE
  generalize chErr p l = V at *
  obtain ⟨AP, cp, rfl⟩ := hp.shape
  clear hS hp hl
  by_cases hpe : primeErr p = 0
  · rw [if_neg (by rw [hpe]; decide)] at HU
    rw [hpe] at HPC
    by_cases h0 : l.length = 0
    · rw [if_pos h0] at HU
      obtain rfl := HU.out
      have h0' : ((l.length : Int) == 0) = true := by rw [h0]; rfl
      go_enter Tryz.func14, Tryz.ntmps14
      go_wp2_with fail
      refine HPC.out.mono ?_
      rintro e w1 ⟨rfl, hw⟩
      have hb1 : Below w.heap.size w w1 := by rw [← hw]; exact Below.refl _ _
      clear hw
      go_wp2_with fail
      go_ret
      exact ⟨rfl, hb1⟩
    · by_cases h12 : 12 < l.length
      · rw [if_neg h0, if_pos h12] at HU
        obtain rfl := HU.out
        go_enter Tryz.func14, Tryz.ntmps14
        go_wp2_with fail
        refine HPC.out.mono ?_
        rintro e w1 ⟨rfl, hw⟩
        have hb1 : Below w.heap.size w w1 := by rw [← hw]; exact Below.refl _ _
        clear hw
        go_wp2_with fail
        go_ret
        exact ⟨rfl, hb1⟩
      · rw [if_neg h0, if_neg h12] at HU
        have h0' : ((l.length : Int) == 0) = false := by rw [beq_eq_false_iff_ne]; omega
        have h12' : decide (12 < (l.length : Int)) = false := decide_eq_false (by omega)
        go_enter Tryz.func14, Tryz.ntmps14
        go_wp2_with fail
        refine HPC.out.mono ?_
        rintro e w1 ⟨rfl, hw⟩
        have hb1 : Below w.heap.size w w1 := by rw [← hw]; exact Below.refl _ _
        clear hw
        go_wp2_with fail
        go_loopw [24] (fun i wr => ∃ (k : Nat), k ≤ l.length ∧ i = .int .i64 k ∧ Box (chFrom p l k = 0) ∧ Below w.heap.size w wr) (fun i _ => l.length - (intOf i).toNat)
        case atStart => exact ⟨0, Nat.zero_le _, rfl, ⟨rfl⟩, hb1⟩
        case round =>
          clear hb1 HPC
          obtain ⟨k, hk, rfl, HF, hbw⟩ := hrel
          by_cases hlt : k < l.length
          · have hgk : l[k]?.getD [] = l[k] := by rw [List.getElem?_eq_getElem hlt]; rfl
            obtain ⟨b, o, xv, rfl, hab, hca, hrow⟩ := rows_pl HL.out (List.getElem?_eq_getElem hlt)
            have hca' := (hbw.cell (p := ⟨b, o + k, Option.none⟩) hab).trans hca
            have HCK := Lib.hid (check_any _ xv p l[k] wr (HP.out.lift hbw) (hrow.lift hbw))
            have HRW := Lib.hid hrow
            obtain ⟨AX, cx, rfl⟩ := hrow.shape
            have HB := Lib.hid hbw
            clear hbw hca hrow
            by_cases hck : chkAll p [l[k]] = 0
            · rw [hck] at HCK
              have HK0 := Lib.hid hck
              clear hck
              cases k with
              | zero =>
                rw [Nat.add_zero] at hca'
                have HN : Box (chFrom p l 1 = 0) := ⟨chFrom_first (by rw [hgk]; exact HK0.out)⟩
                generalize l[0] = x at *
                go_wp2_with fail
                refine HCK.out.mono ?_
                rintro e w2 ⟨rfl, hb2⟩
                have HB2 := Lib.hid (HB.out.trans (hb2.mono HB.out.size))
                clear hb2
                go_wp2_with fail
                go_roundw
                case rel => exact ⟨1, by omega, by go_num, HN, HB2.out⟩
                case measure => simp [intOf]; omega
              | succ k =>
                have hgk0 : l[k]?.getD [] = l[k] := by rw [List.getElem?_eq_getElem (by omega)]; rfl
                have HLE := fun h => @chFrom_less p l k HF.out (by rw [hgk]; exact HK0.out) h
                have HMO := fun h => @chFrom_more p l k HF.out (by rw [hgk]; exact HK0.out) h
                have hck0 : chkAll p [l[k]] = 0 := by have := chFrom_chk _ HF.out k (by omega); rw [hgk0] at this; exact this
                have HCP := Lib.hid (chk_join hck0 HK0.out)
                rw [hgk, hgk0] at HLE HMO
                have HLE2 := Lib.hid HLE
                have HMO2 := Lib.hid HMO
                obtain ⟨b', o', yv, e', hab0, hca0, hrow0⟩ := rows_pl HL.out (k := k) (List.getElem?_eq_getElem (by omega))
                cases e'
                have HC0 := Lib.hid hca0
                have HR0 := Lib.hid hrow0
                have hw1 : IntKind.i64.wrap (((k + 1 : Nat) : Int) - 1) = (k : Int) := by rw [show ((k + 1 : Nat) : Int) - 1 = (k : Int) by omega]; exact IntWalk.i64_in _ (by omega)
                have hw0 : IntKind.i64.wrap (k : Int) = (k : Int) := IntWalk.i64_in _ (by omega)
                obtain ⟨AY, cy, rfl⟩ := hrow0.shape
                clear hgk hgk0 HLE HMO hck0 hca0 hrow0
                have hST : ∀ n, chFrom p l (k + 2) ≠ 0 → k + 2 ≤ n → chFrom p l n = chFrom p l (k + 2) := fun n h h2 => chFrom_stop h n h2
                have HST := Lib.hid hST
                clear hST
                generalize l[k + 1] = x at *
                generalize l[k] = y at *
                go_wp2_with fail
                refine HCK.out.mono ?_
                rintro e w2 ⟨rfl, hb2⟩
                have HB2 := Lib.hid (HB.out.trans (hb2.mono HB.out.size))
                have p0 := (HB2.out.cell (p := ⟨b, o + k, Option.none⟩) hab).trans HC0.out
                have HCM := Lib.hid (compare_mon _ _ _ p y x w2 (HP.out.lift HB2.out) (HR0.out.lift HB2.out) (HRW.out.lift HB2.out) HCP.out (HS.out.below HB2.out (Nat.le_refl _)))
                have hge := cmp_ge p y x
                clear hb2
                generalize cmpN (num p y * den p x) (num p x * den p y) = z at *
                cases hlr : ltR p y x with
                | true =>
                  have HN : Box (chFrom p l (k + 2) = 0) := ⟨HLE2.out hlr⟩
                  rw [hlr, Bool.not_true] at hge
                  clear hlr
                  go_wp2_with fail
                  refine HCM.out.mono ?_
                  rintro e w3 ⟨rfl, hb3⟩
                  have HB3 := Lib.hid (HB2.out.trans (hb3.mono HB2.out.size))
                  clear hb3
                  go_wp2_with fail
                  go_roundw
                  case rel => exact ⟨k + 2, by omega, by go_num, HN, HB3.out⟩
                  case measure => simp [intOf]; omega
                | false =>
                  have HN : Hid (V = 6) := Lib.hid (by
                    rw [HU.out, HST.out _ (by rw [HMO2.out hlr]; decide) (by omega), HMO2.out hlr])
                  rw [hlr, Bool.not_false] at hge
                  clear hlr
                  go_wp2_with fail
                  refine HCM.out.mono ?_
                  rintro e w3 ⟨rfl, hb3⟩
                  have HB3 := Lib.hid (HB2.out.trans (hb3.mono HB2.out.size))
                  clear hb3
                  go_wp2_with fail
                  go_ret
                  exact ⟨by rw [HN.out]; rfl, HB3.out⟩
            · have HN : Hid (V = chkAll p [l[k]]) := Lib.hid (by
                have h1 := chFrom_bad HF.out (by rw [hgk]; exact hck)
                rw [HU.out, chFrom_stop (k := k + 1) (by rw [h1, hgk]; exact hck) _ (by omega), h1, hgk])
              have hne : (chkAll p [l[k]] != 0) = true := by simpa using hck
              clear hck hgk
              generalize chkAll p [l[k]] = z at *
              generalize l[k] = x at *
              go_wp2_with fail
              refine HCK.out.mono ?_
              rintro e w2 ⟨rfl, hb2⟩
              have HB2 := Lib.hid (HB.out.trans (hb2.mono HB.out.size))
              clear hb2
              go_wp2_with fail
              go_ret
              exact ⟨by rw [HN.out]; rfl, HB2.out⟩
          · obtain rfl : k = l.length := by omega
            have HN : Hid (V = 0) := Lib.hid (by rw [HU.out]; exact HF.out)
            go_wp2_with fail
            go_ret
            exact ⟨by rw [HN.out]; rfl, hbw⟩
  · rw [if_pos hpe] at HU
    obtain rfl := HU.out
    have hne : (primeErr p != 0) = true := by simpa using hpe
    clear hpe HU
    generalize primeErr p = V at *
    go_enter Tryz.func14, Tryz.ntmps14
    go_wp2_with fail
    refine HPC.out.mono ?_
    rintro e w1 ⟨rfl, hw⟩
    have hb1 : Below w.heap.size w w1 := by rw [← hw]; exact Below.refl _ _
    clear hw
    go_wp2_with fail
    go_ret
    exact ⟨rfl, hb1⟩

end Go.Proofs.YteenfcmnmenigaaGreatDoor

namespace Go.Proofs.YteenfcmnmenigaaGreatDoor
open Go.RowKit Go.Lib

theorem rows_of_own {w0 w : World} {p : List Int} {g c : Nat} {vs : List Value} {l : List (List Int)} (h : w.ownsRow w0.heap.size 31 1 (.slice (some ⟨g, 0, Option.none⟩) l.length c) l.length vs) (hr : SRows w0 p vs l) (hb : Below w0.heap.size w0 w) : RowsAt w w.heap.size (some ⟨g, 0, Option.none⟩) l := by
  obtain ⟨cs, h1, h2, h3, h4, h5, h6⟩ := own_parts h
  refine ⟨fun k x hx => ?_⟩
  have hk := (List.getElem?_eq_some_iff.1 hx).1
  obtain ⟨v, y, a, b, r, _⟩ := hr.len hk
  rw [b] at hx
  cases hx
  refine ⟨_, v, rfl, h1.lt, ?_, r.lift hb⟩
  rw [Lib.add_plain, Nat.zero_add, h1.cell, ← a, ← h6, List.getElem?_take_of_lt hk]

set_option maxRecDepth 100000 in
set_option maxHeartbeats 4000000 in
theorem lwSorted_any (pv : Value) (p : List Int) (A : Option Addr) (c : Nat) (l : List (List Int)) (w : World) (hS : Std w) (hpv : IsRow w w.heap.size pv p) (hpe : primeErr p = 0) (hl : RowsAt w w.heap.size A l) (hc : ∀ x ∈ l, chkAll p [x] = 0) (h0 : 0 < l.length) (hn : l.length ≤ 1000) :
    Calls Tryz.prog 12 #[pv, .slice A l.length c] w fun e w' => (∃ B d, e = .returned (.slice B (onceL p l).length d) ∧ RowsAt w' w'.heap.size B (onceL p l)) ∧ Below w.heap.size w w' := by
  obtain ⟨w1, hw1⟩ : ∃ w1, w1 = w.alloc (.cells #[pv] 23) := ⟨_, rfl⟩
  have hb1 : Below w.heap.size w w1 := by rw [hw1]; exact (Below.refl _ _).alloc (Nat.le_refl _) _
  have hsz : w1.heap.size = w.heap.size + 1 := by rw [hw1, World.size_alloc]
  have hcb : Cells w1 w.heap.size 23 [pv] := by rw [hw1]; exact Cells.new w 23 #[pv]
  have HS1 := Lib.hid (hS.below hb1 (Nat.le_refl _))
  have HP1 := Lib.hid (hpv.lift hb1)
  have HC1 := Lib.hid (clone_rows A c p l w1 (hl.lift hb1) hc h0 hn)
  have HB1 := Lib.hid hb1
  have HCB := Lib.hid hcb
  have HSZ := Lib.hid hsz
  have HPE := Lib.hid hpe
  have HCK : Box (∀ x ∈ l, chkAll p [x] = 0) := ⟨hc⟩
  have HL0 : Box (0 < l.length) := ⟨h0⟩
  obtain ⟨AP, cp, rfl⟩ := hpv.shape
  clear hS hpv hpe hl hc h0 hb1 hcb hsz
  go_enter Tryz.func12, Tryz.ntmps12
  go_wp2_with fail
  rw [← hw1]
  clear hw1
  refine HC1.out.mono ?_
  rintro e w2 ⟨⟨g, c2, vs, rfl, hown, hsr⟩, hb2⟩
  have hgl := (hown.lt g rfl).1
  have HSO := Lib.hid (csWRows _ p (primed HPE.out) g c2 w.heap.size vs l HS1.out hb2 hgl HP1.out (keep_cell (HCB.out.cell 0) hb2) (by have := HSZ.out; omega) HL0.out hn hown hsr)
  clear hown hsr hb2 HC1
  go_wp2_with fail
  refine HSO.out.mono ?_
  rintro e w3 ⟨rfl, ⟨l', vs', hl1, hl2, hl3, hown3, hsr3⟩, hb3⟩
  have HDD := Lib.hid (dedup_once (primed HPE.out) (fun x hx => (right_of (HCK.out x hx)).len) hl2 (by rw [hl1]; exact hl3))
  rw [← hl1] at hown3
  have HCO := Lib.hid (compactW g c2 vs' p l' w1 w3 hb3 hown3 hsr3 (by omega))
  have HL1 := Lib.hid hl1
  clear hl2 hl3 hown3 hsr3 hb3 HSO hl1
  rw [← HL1.out]
  go_wp2_with fail
  refine HCO.out.mono ?_
  rintro e w4 ⟨⟨vs4, rfl, hown4, hsr4⟩, hb4⟩
  rw [HDD.out] at hown4 hsr4 ⊢
  generalize hds : onceL p l = ds at *
  have HDS := Lib.hid hds
  clear hds
  have HR4 : Box (RowsAt w4 w4.heap.size (some ⟨g, 0, Option.none⟩) ds) := ⟨rows_of_own hown4 hsr4 hb4⟩
  have HB4 := Lib.hid (HB1.out.trans (hb4.mono HB1.out.size))
  clear hown4 hsr4 hb4 HCO HDD
  go_wp2_with fail
  go_ret
  rw [HDS.out]
  exact ⟨⟨_, _, rfl, HR4.out⟩, HB4.out⟩

end Go.Proofs.YteenfcmnmenigaaGreatDoor

namespace Go.Proofs.YteenfcmnmenigaaGreatDoor
open Go.RowKit Go.Lib

def bigI (n : Int) : Bool := decide (1000 < n) || decide (n < -1000)
def bigR (x : List Int) : Bool := x.any bigI
def longB (c : List (List Int)) : Bool := c.any bigR

theorem big_any (n : Int) (w : World) :
    Calls Tryz.prog 51 #[.int .i64 n] w fun e w' => e = .returned (.bool (bigI n)) ∧ Below w.heap.size w w' := by
  unfold bigI
  by_cases h : 1000 < n
  · have h1 : decide ((1000 : Int) < n) = true := decide_eq_true h
    go_enter Tryz.func51, Tryz.ntmps51
    go_wp2_with fail
    go_ret
    exact ⟨ret1 (congrArg Value.bool (by simp [h])), Below.refl _ _⟩
  · have h1 : decide ((1000 : Int) < n) = false := decide_eq_false h
    go_enter Tryz.func51, Tryz.ntmps51
    go_wp2_with fail
    go_ret
    exact ⟨ret1 (congrArg Value.bool (by simp)), Below.refl _ _⟩

def idxZ (p : Int → Bool) : Nat → List Int → Int
  | _, [] => -1
  | k, t :: r => if p t then k else idxZ p (k + 1) r
theorem idxZ_any (p : Int → Bool) : ∀ (l : List Int) (k : Nat), decide (0 ≤ idxZ p k l) = l.any p
  | [], k => rfl
  | t :: r, k => by
    rw [idxZ, List.any_cons]
    cases h : p t with
    | true => rw [if_pos rfl, Bool.true_or, decide_eq_true (by omega)]
    | false => rw [if_neg (by decide), Bool.false_or, idxZ_any p r (k + 1)]

set_option maxRecDepth 100000 in
set_option maxHeartbeats 2000000 in
theorem indexFunc_ints (v : Value) (l : List Int) (w : World) (h : IsRow w w.heap.size v l) :
    Calls Tryz.prog 76 #[v, .func (.func 51) #[] #[]] w fun e w' => e = .returned (.int .i64 (idxZ bigI 0 l)) ∧ Below w.heap.size w w' := by
  have HP := Lib.hid (fun n W => big_any n W)
  obtain ⟨A, c, rfl, hlc, hcm, hr⟩ := h
  unfold maxLen at hcm
  have hl : l.length ≤ 9223372036854775807 := by omega
  clear hcm hlc
  obtain ⟨out, HO⟩ : ∃ out, Box (idxZ bigI 0 (l.drop 0) = out ∧ idxZ bigI 0 l = out) := ⟨_, ⟨rfl, rfl⟩⟩
  rw [HO.out.2]
  go_enter Tryz.func76, Tryz.ntmps76
  go_wp2_with fail
  go_loopw [8] (fun i wr => ∃ k : Nat, k ≤ l.length ∧ i = .int .i64 k ∧ Box (idxZ bigI k (l.drop k) = out) ∧ Below w.heap.size w wr) (fun i _ => l.length - (intOf i).toNat)
  case atStart => exact ⟨0, Nat.zero_le _, rfl, ⟨HO.out.1⟩, Below.refl _ _⟩
  case round =>
    obtain ⟨k, hk, rfl, HK, hbw⟩ := hrel
    by_cases hlt : k < l.length
    · obtain ⟨ad, rfl, _, hc1⟩ := (hr.below hbw (Nat.le_refl _)).i_at hlt
      have hg : l[k]?.getD 0 = l[k]'hlt := by rw [List.getElem?_eq_getElem hlt]; rfl
      rw [hg] at hc1
      have HS : Box (out = if bigI (l[k]'hlt) then (k : Int) else idxZ bigI (k + 1) (l.drop (k + 1))) := ⟨by rw [← HK.out, List.drop_eq_getElem_cons hlt, idxZ]⟩
      have HE := Lib.hid (HP.out (l[k]'hlt) wr)
      clear hg
      generalize l[k]'hlt = t1 at *
      generalize bigI t1 = tb at *
      cases tb with
      | true =>
        have HF : Box (out = (k : Int)) := ⟨by rw [HS.out]; rfl⟩
        clear HS HK HO
        go_wp2_with fail
        refine HE.out.mono ?_
        rintro e w1 ⟨rfl, hb1⟩
        have hbn := hbw.trans (hb1.mono hbw.size)
        clear hb1
        go_wp2_with fail
        go_ret
        exact ⟨ret1 (congrArg (Value.int .i64) HF.out.symm), hbn⟩
      | false =>
        have HF : Box (idxZ bigI (k + 1) (l.drop (k + 1)) = out) := ⟨by rw [HS.out]; rfl⟩
        clear HS HK HO
        go_wp2_with fail
        refine HE.out.mono ?_
        rintro e w1 ⟨rfl, hb1⟩
        have hbn := hbw.trans (hb1.mono hbw.size)
        clear hb1
        go_wp2_with fail
        go_roundw
        case rel => exact ⟨k + 1, by omega, by go_num, HF, hbn⟩
        case measure => simp [intOf]; omega
    · obtain rfl : k = l.length := by omega
      have HF : Box (out = -1) := ⟨by rw [← HK.out, List.drop_length]; rfl⟩
      go_wp2_with fail
      go_ret
      exact ⟨ret1 (congrArg (Value.int .i64) HF.out.symm), hbw⟩

set_option maxHeartbeats 1000000 in
theorem long1_any (x : List Int) (v : Value) (w : World) (h : IsRow w w.heap.size v x) :
    Calls Tryz.prog 49 #[v] w fun e w' => e = .returned (.bool (bigR x)) ∧ Below w.heap.size w w' := by
  have HI := Lib.hid (indexFunc_ints v x w h)
  have HC : Hid (Calls Tryz.prog 50 #[v, .func (.func 51) #[] #[]] w fun e w' => e = .returned (.bool (bigR x)) ∧ Below w.heap.size w w') := Lib.hid (by
    unfold bigR
    rw [← idxZ_any bigI x 0]
    obtain ⟨A, c, rfl⟩ := h.shape
    clear h
    generalize idxZ bigI 0 x = z at *
    go_enter Tryz.func50, Tryz.ntmps50
    go_wp2_with fail
    refine HI.out.mono ?_
    rintro e w1 ⟨rfl, hb1⟩
    go_wp2_with fail
    go_ret
    exact ⟨rfl, hb1⟩)
  obtain ⟨A, c, rfl⟩ := h.shape
  clear h HI
  generalize bigR x = out at *
  go_enter Tryz.func49, Tryz.ntmps49
  go_wp2_with fail
  refine HC.out.mono ?_
  rintro e w1 ⟨rfl, hb1⟩
  go_wp2_with fail
  go_ret
  exact ⟨rfl, hb1⟩

set_option maxHeartbeats 1000000 in
theorem long_any39 (A : Option Addr) (c : Nat) (l : List (List Int)) (w : World) (h : RowsAt w w.heap.size A l) (hl : l.length ≤ 9223372036854775807) :
    Calls Tryz.prog 20 #[.slice A l.length c] w fun e w' => e = .returned (.bool (longB l)) ∧ Below w.heap.size w w' := by
  have HC := Lib.hid (contains_rows 49 bigR A c l w h hl (.inr rfl) (Lib.hid (fun x v W hW => long1_any x v W hW)))
  have HE : Hid (l.any bigR = longB l) := Lib.hid rfl
  rw [HE.out] at HC
  clear h HE
  generalize longB l = out at *
  go_enter Tryz.func20, Tryz.ntmps20
  go_wp2_with fail
  refine HC.out.mono ?_
  rintro e w1 ⟨rfl, hb1⟩
  go_wp2_with fail
  go_ret
  exact ⟨rfl, hb1⟩

/-- Beyond the limit: what Check says, and what long says. -/
theorem big_chk {p x : List Int} (hp : primeErr p = 0) (hl : x.length = p.length) : chkAll p [x] = 0 ↔ bigR x = false := by
  constructor
  · intro h
    have hr := right_of h
    unfold bigR
    rw [List.any_eq_false]
    intro z hz
    obtain ⟨j, hj, rfl⟩ := List.getElem_of_mem hz
    have := hr.ex j hj
    rw [List.getElem?_eq_getElem hj, Option.getD_some] at this
    unfold bigI
    rw [decide_eq_false (by omega), decide_eq_false (by omega)]
    decide
  · intro h
    refine chk_small hp hl fun z hz => ?_
    unfold bigR at h
    rw [List.any_eq_false] at h
    have := h z hz
    unfold bigI at this
    by_cases h1 : 1000 < z
    · rw [decide_eq_true h1] at this; exact absurd rfl this
    · by_cases h2 : z < -1000
      · rw [decide_eq_true h2, Bool.or_true] at this; exact absurd rfl this
      · omega
theorem long_dif {p : List Int} {l : List (List Int)} (hp : primeErr p = 0) (hl : ∀ x ∈ l, x.length = p.length) : longB l = true ↔ ∃ x ∈ l, chkAll p [x] ≠ 0 := by
  unfold longB
  rw [List.any_eq_true]
  constructor
  · rintro ⟨x, hx, h⟩
    exact ⟨x, hx, fun h0 => by rw [(big_chk hp (hl x hx)).1 h0] at h; exact absurd h (by decide)⟩
  · rintro ⟨x, hx, h⟩
    refine ⟨x, hx, ?_⟩
    cases hb : bigR x with
    | true => rfl
    | false => exact absurd ((big_chk hp (hl x hx)).2 hb) h

end Go.Proofs.YteenfcmnmenigaaGreatDoor

namespace Go.Proofs.YteenfcmnmenigaaGreatDoor
open Go.RowKit Go.Lib

set_option maxRecDepth 100000 in
set_option maxHeartbeats 2000000 in
theorem sub_any39 (xv yv : Value) (x y : List Int) (w : World) (hx : IsRow w w.heap.size xv x) (hy : IsRow w w.heap.size yv y) (hl : x.length = y.length) (hn : x.length ≤ 1000) (hb : ∀ j : Nat, (x[j]?.getD 0).natAbs ≤ 1000000 ∧ (y[j]?.getD 0).natAbs ≤ 1000000) :
    Calls Tryz.prog 19 #[xv, yv] w fun e w' => (∃ v, e = .returned v ∧ ORow w' v (difI x y)) ∧ Below w.heap.size w w' := by
  obtain ⟨i0, hi0, hz0, hz1, hz2⟩ := info_parts Tryz.info_int
  have HXY : Box (x.length = y.length) := ⟨hl⟩
  have HEX : Box (∀ j : Nat, (x[j]?.getD 0).natAbs ≤ 1000000 ∧ (y[j]?.getD 0).natAbs ≤ 1000000) := ⟨hb⟩
  have HDI : Hid (sumTo x y (-1) x.length = difI x y) := Lib.hid rfl
  obtain ⟨AX, cx, rfl, hxc, hxm, hxr⟩ := hx
  obtain ⟨AY, cy, rfl, hyc, hym, hyr⟩ := hy
  clear hl hxc hxm hyc hym hb
  go_enter Tryz.func19, Tryz.ntmps19
  go_wp2_with fail
  go_loopw [5, 9] (fun o i wr => ∃ j : Nat, j ≤ x.length ∧ i = .int .i64 j ∧ wr.ownsRow w.heap.size 3 1 o j (is (sumTo x y (-1) j)) ∧ Below w.heap.size w wr) (fun _ i _ => x.length - (intOf i).toNat)
  case atStart => exact ⟨0, Nat.zero_le _, rfl, World.ownsRow_nil _ _ _ _, Below.refl _ _⟩
  case round =>
    obtain ⟨j, hj, rfl, hown, hbw⟩ := hrel
    have HO := Lib.hid hown
    clear hown
    by_cases hlt : j < x.length
    · obtain ⟨ad1, rfl, _, hc1⟩ := (hxr.below hbw (Nat.le_refl _)).i_at hlt
      obtain ⟨ad2, rfl, _, hc2⟩ := (hyr.below hbw (Nat.le_refl _)).i_at (k := j) (by rw [← HXY.out]; exact hlt)
      have hbd := HEX.out j
      have e3 : sumTo x y (-1) (j + 1) = sumTo x y (-1) j ++ [x[j]?.getD 0 - y[j]?.getD 0] := by
        show _ ++ [x[j]?.getD 0 + -1 * y[j]?.getD 0] = _
        rw [show x[j]?.getD 0 + -1 * y[j]?.getD 0 = x[j]?.getD 0 - y[j]?.getD 0 by omega]
      generalize x[j]?.getD 0 = a at *
      generalize y[j]?.getD 0 = b at *
      have E3 := Lib.hid e3
      clear e3
      have hly : (j : Int) < (y.length : Int) := by have := HXY.out; omega
      have hlx : (j : Int) < (x.length : Int) := by omega
      have hj0 : (0 : Int) ≤ (j : Int) := by omega
      have hw2 : IntKind.i64.wrap (a - b) = a - b := IntWalk.i64_in _ (by omega)
      go_wp2
      have hb1 : ad1.block < wr.heap.size := cell_lt_add hc1
      have hb2 : ad2.block < wr.heap.size := cell_lt_add hc2
      go_region_held3 (fun w' => w'.cell? (ad1.add j) = some (.int .i64 a) ∧ w'.cell? (ad2.add j) = some (.int .i64 b))
        (first | go_keep | (go_split_ands; exact ⟨(hgrow.cell_far _ (by rw [add_block]; simp; omega) (by rw [add_block]; exact fun e => by have := (HO.out.lt _ e.symm).1; omega)).trans (by assumption), (hgrow.cell_far _ (by rw [add_block]; simp; omega) (by rw [add_block]; exact fun e => by have := (HO.out.lt _ e.symm).1; omega)).trans (by assumption)⟩))
        ((refine step_append_lies _ (by rfl) _ _ _ (by rfl) w.heap.size 3 i0 _ 1 8 Tryz.underlying31 hi0 hz0 hz1 hz2 rfl (by omega) u5 j _ (by rfl) ((HO.out.alloc _).drew) ⟨wr.heap.size, 0, Option.none⟩ 1 1 [.int .i64 (a - b)] (by rfl) (by rfl) (World.news_of_block (cs := #[.int .i64 (a - b)]) (t := 3) (fr := (0, 0)) (heap_alloc_new wr _)) (by simp [Value.oneCell']) (by omega) (by unfold maxLen; omega) (by omega) (by have := hbw.size; simp; omega) (wr.heap.size + 1) (by simp) ?_; intro gg cap w3 hown3 hgrow hat hlt3))
      clear hw2
      go_wp2
      go_roundw
      case rel =>
        refine ⟨j + 1, by omega, by go_num, ?_, ?_⟩
        · rw [E3.out, is_append]; exact hown3
        · exact ((hbw.alloc hbw.size _).drew).grown hgrow (by have := hbw.size; simp; omega) (fun k hk => (HO.out.lt k hk).1)
      case measure => simp [intOf]; omega
    · obtain rfl : j = x.length := by omega
      have HRI : Hid (ORow wr u5 (difI x y)) := Lib.hid (by
        have h := HO.out
        rw [HDI.out] at h
        have h2 : wr.ownsRow w.heap.size 3 1 u5 (difI x y).length (is (difI x y)) := by rw [difI_len]; exact h
        exact ORow.of_own h2)
      obtain ⟨AR, cr, e9⟩ := HRI.out.shape
      subst e9
      clear HO
      go_wp2_with fail
      go_ret
      exact ⟨⟨_, rfl, HRI.out⟩, hbw⟩

set_option maxRecDepth 100000 in
set_option maxHeartbeats 4000000 in
theorem rooted_any39 (A : Option Addr) (c : Nat) (l : List (List Int)) (k0 : Nat) (w : World) (hl : RowsAt w w.heap.size A l) (hk0 : k0 < l.length) (hn : l.length ≤ 1000) (n : Nat) (hn2 : n ≤ 1000) (hln : ∀ x ∈ l, x.length = n) (hb : ∀ x ∈ l, ∀ j : Nat, (x[j]?.getD 0).natAbs ≤ 1000000) :
    Calls Tryz.prog 18 #[.slice A l.length c, .int .i64 k0] w fun e w' => (∃ v, e = .returned v ∧ LRow w' w.heap.size v (rootL l l[k0])) ∧ Below w.heap.size w w' := by
  obtain ⟨i0, hi0, hz0, hz1, hz2⟩ := info_parts Tryz.info_row
  obtain ⟨b, o, rv, rfl, hab, hca, hrow⟩ := rows_pl hl (List.getElem?_eq_getElem hk0)
  have HL : Box (RowsAt w w.heap.size (some ⟨b, o, Option.none⟩) l) := ⟨hl⟩
  have HLN : Box (∀ x ∈ l, x.length = n) := ⟨hln⟩
  have HBD : Box (∀ x ∈ l, ∀ j : Nat, (x[j]?.getD 0).natAbs ≤ 1000000) := ⟨hb⟩
  have HR := Lib.hid hrow
  have HRL := Lib.hid (hln _ (List.getElem_mem hk0))
  have HRB : Box (∀ j : Nat, ((l[k0]'hk0)[j]?.getD 0).natAbs ≤ 1000000) := ⟨hb _ (List.getElem_mem hk0)⟩
  have hk0i : (k0 : Int) < (l.length : Int) := by omega
  have hk00 : (0 : Int) ≤ (k0 : Int) := by omega
  generalize l[k0]'hk0 = r at *
  obtain ⟨AR, cr, rfl⟩ := hrow.shape
  clear hl hln hb hrow
  go_enter Tryz.func18, Tryz.ntmps18
  go_wp2_with fail
  go_loopw [5, 10] (fun out i wr => ∃ (k : Nat), k ≤ l.length ∧ i = .int .i64 k ∧ LRow wr w.heap.size out (rootL (l.take k) r) ∧ Below w.heap.size w wr) (fun _ i _ => l.length - (intOf i).toNat)
  case atStart => exact ⟨0, Nat.zero_le _, rfl, LRow.nil _ _, Below.refl _ _⟩
  case round =>
    obtain ⟨k, hk, rfl, hlr, hbw⟩ := hrel
    by_cases hlt : k < l.length
    · obtain ⟨b', o', xv, e', hab2, hcx, hrox⟩ := rows_pl HL.out (List.getElem?_eq_getElem hlt)
      cases e'
      have hcx' := (hbw.cell (p := ⟨b, o + k, Option.none⟩) hab2).trans hcx
      have hca' := (hbw.cell (p := ⟨b, o + k0, Option.none⟩) hab).trans hca
      have HXL := Lib.hid (HLN.out _ (List.getElem_mem hlt))
      have HXB : Box (∀ j : Nat, ((l[k]'hlt)[j]?.getD 0).natAbs ≤ 1000000) := ⟨HBD.out _ (List.getElem_mem hlt)⟩
      have HNX := Lib.hid (rootL_snoc (r := r) hlt)
      have HLE : Hid ((rootL (l.take k) r).length = k) := Lib.hid (by rw [rootL_len, List.length_take]; omega)
      generalize l[k]'hlt = x at *
      have HSU := Lib.hid (sub_any39 xv _ x r wr (hrox.lift hbw) (HR.out.lift hbw) (by rw [HXL.out, HRL.out]) (by rw [HXL.out]; exact hn2) (fun j => ⟨HXB.out j, HRB.out j⟩))
      obtain ⟨AX, cx, rfl⟩ := hrox.shape
      have HLR := Lib.hid hlr
      have HB := Lib.hid hbw
      clear hlr hbw hcx hrox
      go_wp2_with fail
      refine HSU.out.mono ?_
      rintro e w1 ⟨⟨v, rfl, hor⟩, hb1⟩
      have HB1 := Lib.hid (HB.out.trans (hb1.mono HB.out.size))
      have HLR1 := Lib.hid (HLR.out.below hb1)
      clear hb1 HLR HB HSU
      have HOR := Lib.hid hor
      obtain ⟨AD, cd, rfl⟩ := hor.shape
      obtain ⟨vs, hown, hvs⟩ := HLR1.out
      rw [HLE.out] at hown
      have HO := Lib.hid hown
      have HVS := Lib.hid hvs
      have hwk : w.heap.size ≤ w1.heap.size := HB1.out.size
      clear hor hown hvs
      go_wp2_with (at_builtin; refine wpList_append_own _ rfl _ _ _ rfl w.heap.size 31 i0 (.slice Option.none 0 0) 1 24 Tryz.underlying24 hi0 hz0 hz1 hz2 rfl (by decide) _ _ _ rfl (HO.out.alloc _) ⟨w1.heap.size, 0, Option.none⟩ 1 1 [_] rfl rfl (cell_one_new _ _ _) (by intro u hu; simp at hu; subst hu; rfl) (by unfold maxLen; omega) (by omega) (by simp; omega) ?_; intro v9 w9 hown9 hg9 _)
      go_roundw
      case rel =>
        refine ⟨k + 1, by omega, by go_num, ?_, (HB1.out.alloc hwk _).grown hg9 (by simp; omega) (fun k hk => (HO.out.lt k hk).1)⟩
        rw [HNX.out]
        have hO := HO.out
        rw [← HLE.out] at hO hown9
        exact LRow.snoc (hO.alloc _) (fun j y hj => by obtain ⟨u, h1, h2⟩ := HVS.out j y hj; exact ⟨u, h1, h2.alloc _⟩) (HOR.out.alloc _) hown9 hg9
      case measure => simp [intOf]; omega
    · obtain rfl : k = l.length := by omega
      rw [List.take_length] at hlr
      have HLR := Lib.hid hlr
      obtain ⟨A1, c1, rfl⟩ := hlr.shape
      clear hlr
      go_wp2_with fail
      go_ret
      exact ⟨⟨_, rfl, HLR.out⟩, hbw⟩

end Go.Proofs.YteenfcmnmenigaaGreatDoor
